/- Texts of this claim, joined. -/
import Derived.Test.YthpckmcgbmfmcaaGreatDoorM35
import Derived.Test.YthpckmcgbmfmcaaGreatDoorM39
set_option maxRecDepth 100000
set_option maxHeartbeats 12800000
namespace Go.Proofs.YthpckmcgbmfmcaaGreatDoor
open Go.RowKit Go.Sort
def EG (w : World) (go n cap bb bo Pm : Nat) (b : Bool) (u : World) : Prop := ∃ u0, Below w.heap.size w u0 /\ u = if b then ((u0.setCell ⟨go, 0, none⟩ (.slice (some ⟨bb, bo, none⟩) n cap)).setCell ⟨go, 1, none⟩ (.bool false)).setCell ⟨go, 2, none⟩ (.int .i64 (Pm : Nat)) else u0
theorem rSz2 (a : Option Addr) (n cap : Nat) (hi : Bool) (k k' : Nat) : (rRow a n cap hi k).size = (rRow a n cap hi k').size := rfl
theorem rnext3_any (bb bo n cap P : Nat) (L : List Bool) (ls : List Nat) (of : Nat -> Value) (s : Nat) (w : World) (h : Sl .u8 w (some ⟨bb, bo, none⟩) n cap (bt.bytes false L)) (hn : n = (L.length + 7) / 8) (hn2 : n <= 137438953472) (hok : pf.Ok ls) (hf : RTab w ls of) (hs : s < ls.length) (hls : ls.length <= 4096) (h1 : 1 <= ls.getD s 0)
  (hP : P + ls.getD s 0 <= L.length) (hb : ∀ i, i < ls.getD s 0 -> L.getD (P + i) false = (pf.code ls s).testBit (ls.getD s 0 - 1 - i)) :
  Calls Tryz.prog 119 #[.agg (gRow (rt.F (rt.fM ls 16) of true) 37), .agg #[.slice (some ⟨bb, bo, none⟩) n cap, .bool false, .int .i64 (P : Nat)]] w fun e w' => e = .returned (.tuple #[.agg #[.slice (some ⟨bb, bo, none⟩) n cap, .bool false, .int .i64 (P + ls.getD s 0 : Nat)], .int .i64 (s : Nat), .int .i64 0]) /\ Below w.heap.size w w' := by
 have hL16 := hok.le _ (pf.getD_mem hs);have CT := hd_ (fun w' (hb : Below w.heap.size w w') Q (hQ : Q + 1 <= 8 * n) => refTake_any bb bo n cap Q L w' (h.below hb) 1 (by decide) hQ hn2);have CM := hd_ (fun w' (hb : Below w.heap.size w w') v m hm1 hm hv => rmore_any ls of true s v m w' hok (hf.below hb) hs hls h1 hm1 hm hv);have HOK := hd_ hok;have HF := hd_ hf;have HSL := hd_ hs;have HLS := hd_ hls;have HBT := hd_ hb;have HN := hd_ hn;obtain ⟨ll, hll⟩ : ∃ z, ls.getD s 0 = z := ⟨_, rfl⟩;rw [hll] at hL16 h1 hP HBT CM ⊢;have HLLE := hd_ hll;obtain ⟨q0, q1, q2, B0⟩ := heap3b w (.cells (gRow (rt.F (rt.fM ls 16) of true) 37) 66) (.cells #[.slice (some ⟨bb, bo, none⟩) n cap, .bool false, .int .i64 (P : Nat)] 53) (.cells #[.slice none 0 0, .bool false, .int .i64 0] 53);have HQ0 := hd_ q0;have HQ1 := hd_ q1;have HQ2 := hd_ q2;have HB0 := hd_ B0;clear h hok hf hs hls hb hn q0 q1 q2 B0 hll;go_enter Tryz.func119, Tryz.ntmps119
 go_upto_region 1 with (fail)
 generalize ((w.alloc (Obj.cells (gRow (rt.F (rt.fM ls 16) of true) 37) 66)).alloc (Obj.cells #[.slice (some ⟨bb, bo, none⟩) n cap, .bool false, .int .i64 (P : Nat)] 53)).alloc (Obj.cells #[.slice none 0 0, .bool false, .int .i64 0] 53) = w1 at *;obtain ⟨g, hg⟩ : ∃ z, w.heap.size = z := ⟨_, rfl⟩;obtain ⟨gr, hgr⟩ : ∃ z, g + 1 = z := ⟨_, rfl⟩;obtain ⟨go, hgo⟩ : ∃ z, gr + 1 = z := ⟨_, rfl⟩;rw [hg] at HQ0 HQ1 HQ2 ⊢;rw [hgr] at HQ1 HQ2 ⊢;rw [hgo] at HQ2 ⊢;have HGG : Hid (w.heap.size <= g /\ w.heap.size <= gr /\ w.heap.size <= go /\ g ≠ gr /\ g ≠ go /\ gr ≠ go) := hd_ (by omega);have c36 := gRow_cell (j := 36) HQ0.out (by decide);have c36' : w1.cell? ⟨g, 36, none⟩ = some (.bool true) := c36;clear hg hgr hgo c36;go_wp2_with fail
 clear c36';go_loopg [7, 8] ll (fun gk s7 s8 wr => ∃ k : Nat, k < ll /\ gk = ll - k /\ s7 = .int .i64 (pf.code ls s / 2 ^ (ll - k) : Nat) /\ s8 = .int .i64 (k + 1 : Nat) /\ wr.heap[g]? = some (.cells (gRow (rt.F (rt.fM ls 16) of true) 37) 66 (0, 0)) /\ wr.heap[gr]? = some (.cells (rRow (some ⟨bb, bo, none⟩) n cap false (P + k)) 53 (0, 0)) /\ wr.heap[go]? = some (.cells #[.slice none 0 0, .bool false, .int .i64 0] 53 (0, 0)) /\ Below w.heap.size w wr)
 case atStart =>
  refine ⟨0, h1, rfl, ?_, rfl, HQ0.out, HQ1.out, HQ2.out, HB0.out⟩;have hcl := pf.code_lt HOK.out HSL.out (by rw [HLLE.out]; exact h1);rw [HLLE.out] at hcl;rw [Nat.sub_zero, Nat.div_eq_of_lt hcl];rfl
 case round =>
  obtain ⟨k, hkl, hgk, rfl, rfl, ht, hr, ho, hbw⟩ := hrel;have Hg := hd_ hgk;have HT := hd_ ht;have HR := hd_ hr;have HO := hd_ ho;have HBW := hd_ hbw;clear hgk ht hr ho hbw HQ0 HQ1 HQ2 HB0;have T := hd_ (CT.out wr HBW.out (P + k) (by have := HN.out; omega));rw [valTo_one, HBT.out k hkl] at T;have HDS := hd_ (div_step (pf.code ls s) ll k hkl);obtain ⟨m, hm⟩ : ∃ z, k + 1 = z := ⟨_, rfl⟩;have hm16 : (m : Int) <= 16 := by omega
  have hm16' : decide ((m : Int) <= 16) = true := by simp; omega
  rw [hm] at HDS ⊢;have HM := hd_ hm;have hcl := pf.code_lt HOK.out HSL.out (by rw [HLLE.out]; exact h1);rw [HLLE.out] at hcl;have hp16 : 2 ^ ll <= 2 ^ 16 := Nat.pow_le_pow_right (by decide) hL16;have hvq : pf.code ls s / 2 ^ (ll - k) <= 65536 := Nat.le_trans (Nat.div_le_self _ _) (by omega);obtain ⟨v, hv⟩ : ∃ z, pf.code ls s / 2 ^ (ll - k) = z := ⟨_, rfl⟩;obtain ⟨x, hx⟩ : ∃ x, bitN ((pf.code ls s).testBit (ll - 1 - k)) = x := ⟨_, rfl⟩;have hx1 : x <= 1 := by rw [<- hx]; exact bitN_le _
  rw [hv] at HDS hvq ⊢;rw [hx] at T HDS;have e1 : IntKind.i64.wrap (2 * (v : Int)) = ((2 * v : Nat) : Int) := i64o (by omega) (by omega);obtain ⟨v2, hv2⟩ : ∃ z, 2 * v = z := ⟨_, rfl⟩;obtain ⟨v3, hv3⟩ : ∃ z, v2 + x = z := ⟨_, rfl⟩;rw [hv2] at e1 HDS;rw [hv3] at HDS;have e2 : IntKind.i64.wrap ((v2 : Int) + (x : Int)) = (v3 : Int) := i64o (by omega) (by omega);have hPk : P + k + 1 = P + m := by omega
  rw [hPk] at T;have hv3b : v3 <= 131073 := by omega
  clear hcl hvq hv hx hv2 hv3 hm hPk;go_upto_region 8 with (first
   | (with_reducible refine wpList_load_row rfl 53 _ rfl gr rfl 53 (rRow (some ⟨bb, bo, none⟩) n cap false (P + k)) (0, 0) _ HR.out Tryz.underlying53 rfl (rSize _ _ _ _ _) ?_))
  refine T.out.mono ?_;rintro e w2 ⟨rfl, hb2⟩;have HB2 := hd_ (HBW.out.trans (hb2.mono HBW.out.size));have HT2 := hd_ ((hb2.block _ (block_lt HT.out)).trans HT.out);have HR2 := hd_ ((hb2.block _ (block_lt HR.out)).trans HR.out);have HO2 := hd_ ((hb2.block _ (block_lt HO.out)).trans HO.out);clear hb2 T HT HR HO HBW;obtain ⟨Pm, hPm⟩ : ∃ z, P + m = z := ⟨_, rfl⟩;have HPM := hd_ hPm;rw [hPm];have hba : Below w2.heap.size w2 (w2.alloc (.cells #[.slice (some ⟨bb, bo, none⟩) n cap, .bool false, .int .i64 (Pm : Nat)] 53)) := (Below.refl _ _).alloc (Nat.le_refl _) _;have hna := heap_alloc_new w2 (.cells #[.slice (some ⟨bb, bo, none⟩) n cap, .bool false, .int .i64 (Pm : Nat)] 53 (0, 0));obtain ⟨w3, hw3⟩ : ∃ z, w2.alloc (.cells #[.slice (some ⟨bb, bo, none⟩) n cap, .bool false, .int .i64 (Pm : Nat)] 53) = z := ⟨_, rfl⟩;obtain ⟨rn, hrn⟩ : ∃ z, w2.heap.size = z := ⟨_, rfl⟩;rw [hw3] at hba hna;rw [hrn] at hna;have HNA : Hid (w3.heap[rn]? = some (.cells (rRow (some ⟨bb, bo, none⟩) n cap false Pm) 53 (0, 0))) := hd_ hna;have HT3 := hd_ ((hba.block _ (block_lt HT2.out)).trans HT2.out);have hr3 := (hba.block _ (block_lt HR2.out)).trans HR2.out;have HR3 := hd_ hr3;have HO3 := hd_ ((hba.block _ (block_lt HO2.out)).trans HO2.out);have HB3 := hd_ (HB2.out.trans (hba.mono HB2.out.size));clear hba hna HT2 HR2 HO2 HB2 hPm hr3;go_upto_region 10 with (fail)
  clear hw3 hrn;go_upto_region 11 with (first
   | (with_reducible refine wpList_load_row rfl 53 _ rfl rn rfl 53 (rRow (some ⟨bb, bo, none⟩) n cap false Pm) (0, 0) _ HNA.out Tryz.underlying53 rfl (rSize _ _ _ _ _) ?_)
   | (with_reducible refine wpList_store_row rfl 53 _ _ rfl gr _ rfl rfl 53 _ HR3.out (rSize (some ⟨bb, bo, none⟩) n cap false Pm) (rSz2 (some ⟨bb, bo, none⟩) n cap false (P + k) Pm) (rOne _ _ _ _ _) ?_))
  have hgr4 := grownBy_setRow w3 gr (rRow (some ⟨bb, bo, none⟩) n cap false Pm);have hr4 : (w3.setRow gr (rRow (some ⟨bb, bo, none⟩) n cap false Pm)).heap[gr]? = some (.cells (rRow (some ⟨bb, bo, none⟩) n cap false Pm) 53 (0, 0)) := setRow_heap _ _ _ _ _ _ HR3.out;have HT4 := hd_ (grown_block hgr4 HT3.out (fun e => HGG.out.2.2.2.1 (Option.some.inj e)));have HO4 := hd_ (grown_block hgr4 HO3.out (fun e => HGG.out.2.2.2.2.2 (Option.some.inj e).symm));have HR4 := hd_ hr4;have HB4 := hd_ (below_setRow HB3.out HGG.out.2.1 (rRow (some ⟨bb, bo, none⟩) n cap false Pm));clear hgr4 hr4 HT3 HR3 HO3 HB3 HNA;generalize w3.setRow gr (rRow (some ⟨bb, bo, none⟩) n cap false Pm) = w4 at *;have hm1 : 1 <= m /\ m <= 16 := by have := HM.out; omega
  obtain ⟨ua, uc, euv, hslk⟩ := HF.out.row m hm1.1 hm1.2;have c1 := gRow_cell (j := m) HT4.out (by omega);have c2 := gRow_cell (j := 18 + m) HT4.out (by omega);have f1e : rt.F (rt.fM ls 16) of true m = .int .i64 (pf.first ls m : Nat) := by unfold rt.F rt.fM; rw [if_pos (by omega), if_pos (by omega)]
  have f2e : rt.F (rt.fM ls 16) of true (18 + m) = .slice ua (ls.count m) uc := by unfold rt.F; rw [if_neg (by omega), if_pos (by omega), Nat.add_sub_cancel_left]; exact euv
  rw [f1e] at c1;rw [f2e] at c2;have hfit := pf.fits HOK.out (n := m) hm1.1 hm1.2;have hpm : 2 ^ m <= 2 ^ 16 := Nat.pow_le_pow_right (by decide) hm1.2;have HSK := hd_ (hslk.below (by have := HB4.out; exact this));obtain ⟨f, hf⟩ : ∃ z, pf.first ls m = z := ⟨_, rfl⟩;obtain ⟨q, hq⟩ : ∃ z, ls.count m = z := ⟨_, rfl⟩;rw [hf] at c1 hfit;rw [hq] at c2 hfit;rw [hq] at HSK;have HFE := hd_ hf;have HQE := hd_ hq;obtain ⟨fq, hfq⟩ : ∃ z, f + q = z := ⟨_, rfl⟩;have t1 : IntKind.i64.wrap ((f : Int) + (q : Int)) = (fq : Int) := i64o (by omega) (by omega);have hm18 : (m : Int) < 18 := by omega
  have hm18' : ¬ m = 18 := by omega
  by_cases hend : m < ll
  ·have hea := pf.early HSL.out hm1.1 (n := m) (by rw [HLLE.out]; exact hend)
   rw [HLLE.out, <- HDS.out, hf, hq] at hea;have b1 : decide ((f : Int) <= (v3 : Int)) = true := (by simp; omega);have b2 : decide ((v3 : Int) < (fq : Int)) = false := (by simp; omega);have b1n : decide (f <= v3) = true := (by simp; omega);have b2n : decide (v3 < fq) = false := (by simp; omega);clear hf hq hfq euv f1e f2e hfit hpm hslk hea;go_upto_region 12 with (fail)
   go_quiet (fail)
   have hbq := below_drewN (Below.refl w4.heap.size w4) nq;have HT5 := hd_ ((hbq.block _ (block_lt HT4.out)).trans HT4.out);have HR5 := hd_ ((hbq.block _ (block_lt HR4.out)).trans HR4.out);have HO5 := hd_ ((hbq.block _ (block_lt HO4.out)).trans HO4.out);have HB5 := hd_ (HB4.out.trans (hbq.mono HB4.out.size));clear hbq c1 c2 b1 b2 b1n b2n HT4 HR4 HO4 HB4 HSK;generalize w4.drewN nq = w5 at *;have M := hd_ (CM.out w5 HB5.out v3 m hm1.1 hend HDS.out);have hsz := rt.size37 (rt.fM ls 16) of true;have HSZ := hd_ hsz;clear hsz;go_wp2_with (with_reducible refine wpList_load_row rfl 66 _ rfl g rfl 66 (gRow (rt.F (rt.fM ls 16) of true) 37) (0, 0) _ HT5.out Tryz.underlying66 rfl HSZ.out ?_)
   refine M.out.mono ?_;rintro e w6 ⟨rfl, hb6⟩;have HT6 := hd_ ((hb6.block _ (block_lt HT5.out)).trans HT5.out);have HR6 := hd_ ((hb6.block _ (block_lt HR5.out)).trans HR5.out);have HO6 := hd_ ((hb6.block _ (block_lt HO5.out)).trans HO5.out);have HB6 := hd_ (HB5.out.trans (hb6.mono HB5.out.size));clear hb6 M HT5 HR5 HO5 HB5;go_wp2_with fail
   go_roundg (ll - m)
   case measure => have := Hg.out; have := HM.out; omega
   case rel => exact ⟨m, hend, rfl, by rw [HDS.out], by go_num, HT6.out, by rw [HPM.out]; exact HR6.out, HO6.out, HB6.out⟩
  ·have hml : m = ll := by have := HM.out; omega
   obtain ⟨rk, hrk⟩ : ∃ z, pf.rank ls s = z := ⟨_, rfl⟩;have hrl := pf.rank_lt HSL.out;rw [HLLE.out, <- hml, hq, hrk] at hrl;have hv3 : v3 = f + rk := by
    have h1 := HDS.out;rw [hml, Nat.sub_self, Nat.pow_zero, Nat.div_one] at h1;rw [h1, <- hf, <- hrk, hml, <- HLLE.out];rfl
   have hat := pf.idx_at HSL.out;rw [HLLE.out, <- hml, hrk] at hat;have b1 : decide ((f : Int) <= (v3 : Int)) = true := (by simp; omega);have b2 : decide ((v3 : Int) < (fq : Int)) = true := (by simp; omega);have b1n : decide (f <= v3) = true := (by simp; omega);have b2n : decide (v3 < fq) = true := (by simp; omega);have t2 : IntKind.i64.wrap ((v3 : Int) - (f : Int)) = (rk : Int) := i64o (by omega) (by omega);have hrq : (rk : Int) < (q : Int) := (by omega);obtain ⟨ub, uo, eua, hce⟩ := HSK.out.cells (by omega);subst eua;have hslk2 := hslk;rw [hq] at hslk2;obtain ⟨ub0, uo0, eua0, hce0⟩ := hslk2.cells (by omega);have hlt0 := World.block_lt_of_cell? _ _ (hce0 rk hrl);have hub0 : ub = ub0 := (by injection eua0 with e; injection e);have HUB : Hid (ub ≠ go) := hd_ (by
    intro e;have h1 := HGG.out.2.2.1;have h2 : ub0 < w.heap.size := hlt0;omega)
   clear hslk2 eua0 hce0 hlt0 hub0;have hkc := hce rk hrl;rw [nats_get, List.getD_eq_getElem?_getD, hat] at hkc;have hkc' : w4.cell? ⟨ub, uo + rk, none⟩ = some (.int .i64 (s : Nat)) := hkc;have HKC := hd_ hkc';have huc : ¬ uc = rk := (by have := HSK.out.fits; omega);have HMLL := hd_ hml;clear hend hml hrk hat hf hq hfq euv f1e f2e hfit hpm hslk hce hkc hkc' hv3;go_upto_region 12 with (fail)
   go_quiet (fail)
   have hbq := below_drewN (Below.refl w4.heap.size w4) nq;have HBQ := hd_ hbq;have HT5 := hd_ ((hbq.block _ (block_lt HT4.out)).trans HT4.out);have HR5 := hd_ ((hbq.block _ (block_lt HR4.out)).trans HR4.out);have HO5 := hd_ ((hbq.block _ (block_lt HO4.out)).trans HO4.out);have HB5 := hd_ (HB4.out.trans (hbq.mono HB4.out.size));have HKC5 := hd_ (keep_cell hbq HKC.out);have HC1 := hd_ (keep_cell hbq c1);have HC2 := hd_ (keep_cell hbq c2);clear hbq c1 c2 b1 b2 b1n b2n HT4 HR4 HO4 HB4 HSK HKC HBQ;generalize w4.drewN nq = w5 at *;have HGF : Hid (∀ b u, EG w5 go n cap bb bo Pm b u -> (u.cell? ⟨gr, 0, none⟩ = some (.slice (some ⟨bb, bo, none⟩) n cap) /\ u.cell? ⟨gr, 0 + 1, none⟩ = some (.bool false) /\ u.cell? ⟨gr, 0 + 2, none⟩ = some (.int .i64 (Pm : Nat))) /\ u.cell? ⟨g, 18 + m, none⟩ = some (.slice (some ⟨ub, uo, none⟩) q uc) /\ u.cell? ⟨g, m, none⟩ = some (.int .i64 (f : Nat)) /\ u.cell? ⟨ub, uo + rk, none⟩ = some (.int .i64 (s : Nat))) := hd_ (by
    rintro b u ⟨u0, hb0, rfl⟩;have r9 := (hb0.block _ (block_lt HR5.out)).trans HR5.out;have d1 := keep_cell hb0 HC1.out;have d2 := keep_cell hb0 HC2.out;have d3 := keep_cell hb0 HKC5.out;have o9 := (hb0.block _ (block_lt HO5.out)).trans HO5.out;have t9 := (hb0.block _ (block_lt HT5.out)).trans HT5.out;cases b
    ·exact ⟨⟨(cell_of_row _ _ 0 _ _ (0, 0) r9).trans rfl, (cell_of_row _ _ 1 _ _ (0, 0) r9).trans rfl, (cell_of_row _ _ 2 _ _ (0, 0) r9).trans rfl⟩, d2, d1, d3⟩
    ·have hg : u0.grownBy (((u0.setCell ⟨go, 0, none⟩ (.slice (some ⟨bb, bo, none⟩) n cap)).setCell ⟨go, 1, none⟩ (.bool false)).setCell ⟨go, 2, none⟩ (.int .i64 (Pm : Nat))) (some go) := ((grownBy_setCell3 u0 go 0 _).trans (grownBy_setCell3 _ go 1 _)).trans (grownBy_setCell3 _ go 2 _)
     have r10 := grown_block hg r9 (fun e => HGG.out.2.2.2.2.2 (Option.some.inj e));have keep : ∀ {a : Addr} {y : Value}, a.block ≠ go -> u0.cell? a = some y -> (((u0.setCell ⟨go, 0, none⟩ (.slice (some ⟨bb, bo, none⟩) n cap)).setCell ⟨go, 1, none⟩ (.bool false)).setCell ⟨go, 2, none⟩ (.int .i64 (Pm : Nat))).cell? a = some y := fun hne h => hg.cell h (fun e => hne (Option.some.inj e))
     exact ⟨⟨(cell_of_row _ _ 0 _ _ (0, 0) r10).trans rfl, (cell_of_row _ _ 1 _ _ (0, 0) r10).trans rfl, (cell_of_row _ _ 2 _ _ (0, 0) r10).trans rfl⟩, keep (fun e => HGG.out.2.2.2.2.1 e) d2, keep (fun e => HGG.out.2.2.2.2.1 e) d1, keep HUB.out d3⟩)
   have HGR : Hid (∀ u, EG w5 go n cap bb bo Pm false u -> u.cell? ⟨go, 0, none⟩ = some (.slice none 0 0) /\ u.cell? ⟨go, 1, none⟩ = some (.bool false) /\ u.cell? ⟨go, 2, none⟩ = some (.int .i64 0) /\ u.frozen? ⟨go, 0, none⟩ = false /\ u.frozen? ⟨go, 1, none⟩ = false /\ u.frozen? ⟨go, 2, none⟩ = false) := hd_ (by
    rintro u ⟨u0, hb0, hu⟩;have hu' : u = u0 := hu;subst hu';have o9 := (hb0.block _ (block_lt HO5.out)).trans HO5.out;exact ⟨(cell_of_row _ _ 0 _ _ (0, 0) o9).trans rfl, (cell_of_row _ _ 1 _ _ (0, 0) o9).trans rfl, (cell_of_row _ _ 2 _ _ (0, 0) o9).trans rfl, frozen_of_row _ _ 0 _ _ o9, frozen_of_row _ _ 1 _ _ o9, frozen_of_row _ _ 2 _ _ o9⟩)
   go_upto_region 13 with (fail)
   refine wp_region_early (D := fun i => ([55, 56, 57, 58, 59, 60, 61, 62, 63, 64, 65, 66, 67] : List Nat).getD i 0) 14 13 (fun i => match i with
     | 0 => .agg #[.slice (some ⟨bb, bo, none⟩) n cap, .bool false, .int .i64 (Pm : Nat)]
     | 1 => .int .i64 (m : Nat)
     | 2 => .pointer (some ⟨g, 18, none⟩)
     | 3 => .pointer (some ⟨g, 18 + m, none⟩)
     | 4 => .slice (some ⟨ub, uo, none⟩) q uc
     | 5 => .int .i64 (v3 : Nat)
     | 6 => .int .i64 (m : Nat)
     | 7 => .pointer (some ⟨g, 0, none⟩)
     | 8 => .pointer (some ⟨g, m, none⟩)
     | 9 => .int .i64 (f : Nat)
     | 10 => .int .i64 (rk : Nat)
     | 11 => .pointer (some ⟨ub, uo + rk, none⟩)
     | 12 => .int .i64 (s : Nat)
     | _ => undef) (EG w5 go n cap bb bo Pm) (fun a => a.tmps[2]? = some (.pointer (some ⟨g, 0, none⟩)) /\ a.tmps[3]? = some (.pointer (some ⟨gr, 0, none⟩)) /\ a.tmps[4]? = some (.pointer (some ⟨go, 0, none⟩)) /\ a.tmps[7]? = some (.int .i64 (v3 : Nat)) /\ a.tmps[8]? = some (.int .i64 (m : Nat)))
    (by decide) (by decide) (by kernel_rfl) (by kernel_rfl) (by decide +kernel) (by decide +kernel) (by decide +kernel) (by decide +kernel) (by kernel_rfl) ⟨w5.drew, (Below.refl _ _).drew, rfl⟩ ?_ ?_ ?_
   ·intro a' hold
    exact ⟨hold 2 (by decide), hold 3 (by decide), hold 4 (by decide), hold 7 (by decide), hold 8 (by decide)⟩
   ·refine ⟨?_, ?_, ?_, ?_, ?_, ?_, ?_, ?_, ?_, ?_, ?_, ?_, ?_, ?_, trivial⟩
    ·intro a' u b hb hG hS hd
     have g0 := hS.2.1;obtain ⟨x0, x1, x2⟩ := (HGF.out b u hG).1;clear hd;dsimp only at *;go_simp
     all_goals exact hG
    ·intro a' u b hb hG hS hd
     have g0 := hS.2.2.2.2;clear hd;dsimp only at *;go_simp
     all_goals exact hG
    ·intro a' u b hb hG hS hd
     have g0 := hS.1;clear hd;dsimp only at *;go_simp
     all_goals exact hG
    ·intro a' u b hb hG hS hd
     have f2 : a'.tmps[57]? = some _ := hd 2 (by kernel_rfl) (by decide);have f1 : a'.tmps[56]? = some _ := hd 1 (by kernel_rfl) (by decide);clear hd;dsimp only at *;go_simp
     all_goals exact hG
    ·intro a' u b hb hG hS hd
     have f3 : a'.tmps[58]? = some _ := hd 3 (by kernel_rfl) (by decide);have g1 := (HGF.out b u hG).2.1;clear hd;dsimp only at *;go_simp
     all_goals exact hG
    ·intro a' u b hb hG hS hd
     have g0 := hS.2.2.2.1;clear hd;dsimp only at *;go_simp
     all_goals exact hG
    ·intro a' u b hb hG hS hd
     have g0 := hS.2.2.2.2;clear hd;dsimp only at *;go_simp
     all_goals exact hG
    ·intro a' u b hb hG hS hd
     have g0 := hS.1;clear hd;dsimp only at *;go_simp
     all_goals exact hG
    ·intro a' u b hb hG hS hd
     have f7 : a'.tmps[62]? = some _ := hd 7 (by kernel_rfl) (by decide);have f6 : a'.tmps[61]? = some _ := hd 6 (by kernel_rfl) (by decide);clear hd;dsimp only at *;go_simp
     all_goals exact hG
    ·intro a' u b hb hG hS hd
     have f8 : a'.tmps[63]? = some _ := hd 8 (by kernel_rfl) (by decide);have g1 := (HGF.out b u hG).2.2.1;clear hd;dsimp only at *;go_simp
     all_goals exact hG
    ·intro a' u b hb hG hS hd
     have f5 : a'.tmps[60]? = some _ := hd 5 (by kernel_rfl) (by decide);have f9 : a'.tmps[64]? = some _ := hd 9 (by kernel_rfl) (by decide);clear hd;dsimp only at *;go_simp
     all_goals exact hG
    ·intro a' u b hb hG hS hd
     have f4 : a'.tmps[59]? = some _ := hd 4 (by kernel_rfl) (by decide);have f10 : a'.tmps[65]? = some _ := hd 10 (by kernel_rfl) (by decide);clear hd;dsimp only at *;go_simp
     all_goals exact hG
    ·intro a' u b hb hG hS hd
     have f11 : a'.tmps[66]? = some _ := hd 11 (by kernel_rfl) (by decide);have g1 := (HGF.out b u hG).2.2.2;clear hd;dsimp only at *;go_simp
     all_goals exact hG
    ·intro a' u b hb hG hS hd
     have f0 : a'.tmps[55]? = some _ := hd 0 (by kernel_rfl) (by decide);have g0 := hS.2.2.1;obtain rfl := hb rfl;obtain ⟨x0, x1, x2, x3, x4, x5⟩ := HGR.out u hG;clear hd;dsimp only at *;go_simp
     obtain ⟨u0, hu0, hu⟩ := hG;have hu' : u = u0 := hu;subst hu';exact ⟨u, hu0, rfl⟩
   ·intro a' u h
    have e55 : a'.tmps[55]? = some (.agg #[.slice (some ⟨bb, bo, none⟩) n cap, .bool false, .int .i64 (Pm : Nat)]) := h.new 0 (by decide) (by decide) (by decide +kernel);have e67 : a'.tmps[67]? = some (.int .i64 (s : Nat)) := h.new 12 (by decide) (by decide) (by decide +kernel);have htm := tmps_set h.size [55, 56, 57, 58, 59, 60, 61, 62, 63, 64, 65, 66, 67] (fun d hd => h.old d (fun i hi his e => hd (by rw [<- e]; exact mem_getD (by show i < 13; omega))));have hdf : a'.defers = [] := h.defers;obtain ⟨u0, hb9, hu⟩ := h.world;have hu9 : u = ((u0.setCell ⟨go, 0, none⟩ (.slice (some ⟨bb, bo, none⟩) n cap)).setCell ⟨go, 1, none⟩ (.bool false)).setCell ⟨go, 2, none⟩ (.int .i64 (Pm : Nat)) := (by rw [hu, if_pos (by decide +kernel)]);subst hu9;clear h hu;obtain ⟨fx, hf⟩ : ∃ f : Nat -> Value, (fun i => a'.tmps.getD i undef) = f := ⟨_, rfl⟩;replace e55 : (fun i => a'.tmps.getD i undef) 55 = _ := slot_of e55;replace e67 : (fun i => a'.tmps.getD i undef) 67 = _ := slot_of e67;have hff : ∀ i, a'.tmps.getD i undef = fx i := fun i => congrFun hf i
    simp only [hff] at e55 e67;simp only [List.foldl_cons, List.foldl_nil, hff] at htm;obtain ⟨tmps, defers⟩ := a';dsimp only at hdf htm;subst hdf;rw [htm, e55, e67];clear htm hf hff e55 e67;have o9 := (hb9.block _ (block_lt HO5.out)).trans HO5.out;have r1 := heap_setCell_same u0 go 0 _ _ (.slice (some ⟨bb, bo, none⟩) n cap) o9;have r2 := heap_setCell_same _ go 1 _ _ (.bool false) r1;have r3 := heap_setCell_same _ go 2 _ _ (.int .i64 (Pm : Nat)) r2;have hb6 := HB5.out.trans (hb9.mono HB5.out.size);have hb7 := ((hb6.setCell (p := ⟨go, 0, none⟩) HGG.out.2.2.1 (.slice (some ⟨bb, bo, none⟩) n cap)).setCell (p := ⟨go, 1, none⟩) HGG.out.2.2.1 (.bool false)).setCell (p := ⟨go, 2, none⟩) HGG.out.2.2.1 (.int .i64 (Pm : Nat));have R3 := hd_ r3;have HB7 := hd_ hb7;clear o9 r1 r2 r3 hb6 hb7;simp only [List.setIfInBounds_toArray, List.set_cons_succ, List.set_cons_zero];generalize ((u0.setCell ⟨go, 0, none⟩ (.slice (some ⟨bb, bo, none⟩) n cap)).setCell ⟨go, 1, none⟩ (.bool false)).setCell ⟨go, 2, none⟩ (.int .i64 (Pm : Nat)) = u9 at *;go_wp2_with fail
    refine bodyPost_ret (results_cell_tmp2 (p := 4) (q := 5) (q2 := 6) (ty := 53) rfl _ _ go 53 _ (0, 0) _ _ _ rfl rfl rfl R3.out Tryz.underlying53 rfl (rSize (some ⟨bb, bo, none⟩) n cap false Pm)) rfl ?_;refine ⟨?_, HB7.out⟩;rw [<- HPM.out, HMLL.out];rfl
end Go.Proofs.YthpckmcgbmfmcaaGreatDoor
