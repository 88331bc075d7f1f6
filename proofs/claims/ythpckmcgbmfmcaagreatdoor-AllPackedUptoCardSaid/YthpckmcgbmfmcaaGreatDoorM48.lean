/- Texts of this claim, joined. -/
import Derived.Test.YthpckmcgbmfmcaaGreatDoorM47
set_option maxRecDepth 100000
set_option maxHeartbeats 12800000
namespace Go.Proofs.YthpckmcgbmfmcaaGreatDoor
open Go.RowKit Go.Sort
theorem own_nats {base : Nat} {w : World} {v : Value} {ls : List Nat} (h : OwnN base w v ls) (h1 : 0 < ls.length) (hle : ∀ z ∈ ls, z <= 16) : ∃ g c, v = .slice (some ⟨g, 0, none⟩) ls.length c /\ Sl .i64 w (some ⟨g, 0, none⟩) ls.length c (nats ls) := by
 obtain ⟨g, c, e, _⟩ := own_form h h1;subst e;exact ⟨g, c, rfl, Fresh.sl h (nats_wf _ (fun z hz => Nat.le_trans (hle z hz) (by decide)))⟩
theorem sl_apart6 {w w' : World} {a : Option Addr} {n cap x : Nat} {l : List Int} {rb rb2 cn cc P ol oc most : Nat} {ao : Option Addr} (h : Sl .i64 w a n cap l) (hn : 7 <= n) (hx : w.heap[x]? = some (.cells (stRow rb rb2 cn cc P ao ol oc most) 55 (0, 0))) (hg : w.grownBy w' (some x)) : Sl .i64 w' a n cap l := by
 refine ⟨h.len, h.fits, h.most, h.bare, h.wf, ?_⟩;have hl := h.len;rcases h.rd with h0 | ⟨b, off, e, hc'⟩
 ·exact .inl h0
 ·refine .inr ⟨b, off, e, fun i hi => (hg.cell (hc' i hi) ?_)⟩
  intro e2;have e3 := Option.some.inj e2;simp only at e3;have h6 := hc' 6 (by omega);rw [e3, cell_of_row _ _ _ _ _ _ hx] at h6;have hs : (stRow rb rb2 cn cc P ao ol oc most).size = 6 := rfl;rw [Array.getElem?_eq_none (by rw [hs]; omega)] at h6;cases h6
def SRawPost (S : List Bool) (l : List Int) (w : World) (e : Ending) (w' : World) : Prop :=
 ∃ v, e = .returned (.tuple #[v, .int .i64 ((S.length + 7) / 8 : Nat), .int .i64 0]) /\ w'.ownsRow w.heap.size 5 1 v l.length (l.map (Value.int .u8)) /\ Below w.heap.size w w'
theorem sraw_any (bb bo n cap most : Nat) (L S E : List Bool) (l : List Int) (w : World) (h : Sl .u8 w (some ⟨bb, bo, none⟩) n cap (bt.bytes false L)) (hL : L = S ++ E) (hst : df.Stream l S) (hby : sm.Bytes l) (hl : l.length <= most) (hm : most <= 17179869184) (hn : n <= 34359738368) (hbb : bb < w.heap.size) :
  Calls Tryz.prog 8 #[.slice (some ⟨bb, bo, none⟩) n cap, .int .i64 (most : Nat)] w (SRawPost S l w) := by
 have HS := hd_ h;have HN : Hid (n = (L.length + 7) / 8) := hd_ (by have := h.len; rw [bt.bytes_length] at this; exact this.symm);have HLL := hd_ hL;have HTD := hd_ hst.todo;have HBY := hd_ hby;have HBB := hd_ hbb;have hn2 : n <= 137438953472 := by omega
 clear h hL hst hby hbb;go_enter Tryz.func8, Tryz.ntmps8
 have hm0 : decide ((most : Int) < 0) = false := by rw [decide_eq_false_iff_not]; omega
 go_upto_region 4 with (fail)
 clear hm0;have B0 : Below w.heap.size w (w.alloc (.cells (stRow bb bo n cap 0 none 0 0 most) 55)) := (Below.refl _ _).alloc (Nat.le_refl _) _;have n0 := heap_alloc_new w (.cells (stRow bb bo n cap 0 none 0 0 most) 55 (0, 0));rw [show w.alloc (Obj.cells #[.slice (some ⟨bb, bo, none⟩) n cap, .bool false, .int .i64 0, .slice none 0 0, .int .i64 (most : Nat), .int .i64 0] 55) = w.alloc (.cells (stRow bb bo n cap 0 none 0 0 most) 55) from rfl];have HM0 : Hid (Mx w.heap.size w.heap.size w (w.alloc (.cells (stRow bb bo n cap 0 none 0 0 most) 55)) bb bo n cap 0 none 0 most []) := hd_ ⟨n0, World.ownsRow_nil _ _ _ _, .of_below B0 (Nat.le_refl _), Nat.le_refl _, Nat.le_refl _⟩;clear B0 n0;generalize w.alloc (Obj.cells (stRow bb bo n cap 0 none 0 0 most) 55) = w1 at *;obtain ⟨b1, hb1⟩ : ∃ z, w.heap.size = z := ⟨_, rfl⟩;have HB1E := hd_ hb1;obtain ⟨x, hx⟩ : ∃ z, b1 = z := ⟨_, rfl⟩;have HXE := hd_ hx;rw [hb1] at HM0 HBB ⊢;have HM1 : Hid (Mx b1 x w w1 bb bo n cap 0 none 0 most []) := hd_ (by rw [<- hx]; exact HM0.out);rw [hx];clear hb1 hx HM0;go_wp2_with fail
 go_loopg [8] (l.length + 1) (fun gk s8 wr => ∃ (last : Bool) (i P : Nat) (ao : Option Addr) (oc : Nat) (o : List Int), s8 = .int .i64 (if last then 1 else 0) /\ gk = (if last then 0 else l.length - i + 1) /\ i <= l.length /\ l.take i = o /\ Mx b1 x w wr bb bo n cap P ao oc most o /\
  (last = true -> i = l.length /\ P = S.length) /\ (last = false -> ∃ A T, L = A ++ (T ++ E) /\ A.length = P /\ P + T.length = S.length /\ df.Todo l i P T))
 case atStart => exact ⟨false, 0, 0, none, 0, [], rfl, rfl, Nat.zero_le _, rfl, HM1.out, (fun e => by cases e), fun _ => ⟨[], S, HLL.out, rfl, by rw [Nat.zero_add], HTD.out⟩⟩
 case round =>
  obtain ⟨last, i, P, ao, oc, o, rfl, hg, hi, hoe, hmx, hend, htodo⟩ := hrel;have Hg := hd_ hg;have HJ := hd_ hmx;clear hg hmx HM1;have c5 := (st_cells HJ.out.head).1.2.2.2.2.2;cases last
  ·obtain ⟨A, T, hLT, hAP, hPT, htd⟩ := htodo rfl
   have HPT := hd_ hPT;have Hg : Hid (gk = l.length - i + 1) := Hg;clear hend htodo;rcases htd with ⟨hT, hP8, _⟩ | ⟨hi0, ps, hfr, hgd, hT⟩ | ⟨hi0, ps, Lt, Dt, C, hfr, l1, l2, l3, mL, mD, mC, c7, cp, cv, e2, hT⟩
   ·obtain ⟨q, ch, R, hsn, hcl, hch, hic, hq⟩ := df.sto_next l i hi
    have hLB0 : L = A ++ (df.blk q ch ++ (R ++ E)) := (by rw [hLT, hT, hsn, List.append_assoc]);obtain ⟨k, hk⟩ : ∃ k, P = 8 * k := ⟨P / 8, by omega⟩;have hbc : sm.Bytes ch := by
     rw [hch];intro z hz;exact HBY.out z (List.mem_of_mem_drop (List.mem_of_mem_take hz))
    obtain ⟨b3, b1', b2, b4⟩ := df.blk_at hLB0 (hAP.trans hk) hbc hcl;obtain ⟨m, hm'⟩ : ∃ z, ch.length = z := ⟨_, rfl⟩;rw [hm'] at b1' b2 b3 b4 hcl hch hic hq;have hm6 := hcl;have HB1 := hd_ b1';have HB2x := hd_ b2;have HB3x := hd_ b3;have HB4x := hd_ b4;have HMC := hd_ hm';have hLB : L = A ++ (bt.bitsOf false q 3 ++ (List.replicate 5 false ++ bt.bitsOf false ch.length 16 ++ bt.bitsOf false (ch.length ^^^ 65535) 16 ++ (ch.flatMap fun x => bt.bitsOf false x.toNat 8) ++ (R ++ E))) := by
     rw [hLB0];unfold df.blk;simp only [List.append_assoc]
    have hblen : (df.blk q ch).length = 40 + 8 * m := (by rw [df.blk_length, hm']);have HSN := hd_ hsn;have HBL := hd_ hblen;have hout : l.take i ++ ch = l.take (i + m) := (by rw [List.take_add, <- hch]);rw [hoe] at hout;have HOUT := hd_ hout;have hol : o.length = i := (by rw [<- hoe, List.length_take]; omega);have HOL := hd_ hol;have HKP := hd_ hk;clear hLB0 hbc b1' b2 b3 b4 hm' hsn hblen hout hcl hol hk;rcases hq with ⟨rfl, hR, hie⟩ | ⟨rfl, hR, hm1⟩
    ·have hnext : R = [] := hR
     obtain ⟨p3, q1, q2⟩ := df.head_at hLB df.bits3_1 (by decide) (by decide);rw [hAP] at p3 q1 q2;have HP3 := hd_ p3;have HQ2 := hd_ q2;have HAP := hd_ hAP;have HLT := hd_ hLT;have HTT := hd_ hT;have HNX := hd_ hnext;clear hT hLT hLB hAP hPT p3 q2 hnext hch hoe;have T := hd_ (stake_any bb bo n cap (P) L ao o.length oc most wr (HS.out.keepB HJ.out.of.below HBB.out) 1 (by decide) (by have := HN.out; have := HP3.out; omega) hn2);rw [q1] at T;go_wp2_with (with_reducible refine wpList_load_row rfl 55 _ rfl x rfl 55 _ (0, 0) _ HJ.out.head Tryz.underlying55 rfl (stSize _ _ _ _ _ _ _ _ _) ?_)
     refine T.out.mono ?_;rintro e w3 ⟨rfl, hb⟩;have HJ3 := hd_ (HJ.out.below hb);clear hb T HJ
     try clear c5
     go_upto_region 8 with (with_reducible refine wpList_store_row rfl 55 _ _ rfl x _ rfl rfl 55 _ HJ3.out.head (stSize bb bo n cap (P + 1) ao o.length oc most) (stSz _ _ _ _ _ _ _ _ _ _ _ _ _ _ _ _ _ _) (stOne _ _ _ _ _ _ _ _ _) ?_)
     have HJ4 := hd_ (HJ3.out.read (P + 1));clear HJ3;generalize w3.setRow x (stRow bb bo n cap (P + 1) ao o.length oc most) = w4 at *;have c5 := (st_cells HJ4.out.head).1.2.2.2.2.2;have T := hd_ (stake_any bb bo n cap (P + 1) L ao o.length oc most w4 (HS.out.keepB HJ4.out.of.below HBB.out) 2 (by decide) (by have := HN.out; have := HP3.out; omega) hn2);rw [HQ2.out] at T;go_wp2_with (with_reducible refine wpList_load_row rfl 55 _ rfl x rfl 55 _ (0, 0) _ HJ4.out.head Tryz.underlying55 rfl (stSize _ _ _ _ _ _ _ _ _) ?_)
     refine T.out.mono ?_;rintro e w5 ⟨rfl, hb⟩;have HJ5 := hd_ (HJ4.out.below hb);clear hb T HJ4
     try clear c5
     go_upto_region 10 with (with_reducible refine wpList_store_row rfl 55 _ _ rfl x _ rfl rfl 55 _ HJ5.out.head (stSize bb bo n cap (P + 1 + 2) ao o.length oc most) (stSz _ _ _ _ _ _ _ _ _ _ _ _ _ _ _ _ _ _) (stOne _ _ _ _ _ _ _ _ _) ?_)
     have HJ6 := hd_ (HJ5.out.read (P + 1 + 2));clear HJ5;generalize w5.setRow x (stRow bb bo n cap (P + 1 + 2) ao o.length oc most) = w6 at *;have c5 := (st_cells HJ6.out.head).1.2.2.2.2.2;clear q1;have ST := hd_ (sstored_any (P := P + 1 + 2) (out := o) (ao := ao) (oc := oc) (most := most) (HS.out.keepB HJ6.out.of.below HBB.out) HN.out hn2 HBB.out HJ6.out.row HJ6.out.hw2 (by have := HN.out; have := HP3.out; omega) (8 * k + 8) m (by have := HKP.out; omega) HB1.out (by rw [show 8 * k + 8 + 16 = 8 * k + 24 by omega]; exact HB2x.out) hm6 (by have := HN.out; have := HB3x.out; omega) (by rw [HOL.out]; omega) hm);rw [show (8 * k + 8 + 32) / 8 = k + 5 by omega, HB4x.out] at ST;obtain ⟨o2, ho2⟩ : ∃ z, o ++ ch = z := ⟨_, rfl⟩;obtain ⟨PN, hPN⟩ : ∃ z, 8 * k + 8 + 32 + 8 * m = z := ⟨_, rfl⟩;rw [ho2, hPN] at ST;have HO2 := hd_ ho2;have HPN := hd_ hPN;clear ho2 hPN;go_wp2_with (with_reducible refine wpList_load_row rfl 55 _ rfl x rfl 55 _ (0, 0) _ HJ6.out.head Tryz.underlying55 rfl (stSize _ _ _ _ _ _ _ _ _) ?_)
     refine ST.out.mono ?_;rintro e w7 ⟨ao2, oc2, rfl, hr7, hf7⟩;have HST := hd_ (HJ6.out.step (P' := PN) hf7 hr7);clear hr7 hf7 ST HJ6 c5;go_wp2_with (with_reducible refine wpList_store_row rfl 55 _ _ rfl x _ rfl rfl 55 _ HST.out.1 (stSize bb bo n cap (PN) ao2 o2.length oc2 most) (stSz _ _ _ _ _ _ _ _ _ _ _ _ _ _ _ _ _ _) (stOne _ _ _ _ _ _ _ _ _) ?_)
     go_roundg 0
     case measure => have := Hg.out; omega
     case rel =>
      have h1 := HPT.out;have h2 := HBL.out;rw [HTT.out, HSN.out, HNX.out, List.append_nil, h2] at h1;have h3 := HKP.out;have h4 := HPN.out;exact ⟨true, i + m, PN, ao2, oc2, o2, rfl, rfl, by omega, HOUT.out.symm.trans HO2.out, HST.out.2, (fun _ => ⟨hie, by omega⟩), (fun e => by cases e)⟩
    ·have hnext : R = df.sto (l.drop (i + m)) := hR
     obtain ⟨p3, q1, q2⟩ := df.head_at hLB df.bits3_0 (by decide) (by decide);rw [hAP] at p3 q1 q2;have HP3 := hd_ p3;have HQ2 := hd_ q2;have HAP := hd_ hAP;have HLT := hd_ hLT;have HTT := hd_ hT;have HNX := hd_ hnext;clear hT hLT hLB hAP hPT p3 q2 hnext hch hoe;have T := hd_ (stake_any bb bo n cap (P) L ao o.length oc most wr (HS.out.keepB HJ.out.of.below HBB.out) 1 (by decide) (by have := HN.out; have := HP3.out; omega) hn2);rw [q1] at T;go_wp2_with (with_reducible refine wpList_load_row rfl 55 _ rfl x rfl 55 _ (0, 0) _ HJ.out.head Tryz.underlying55 rfl (stSize _ _ _ _ _ _ _ _ _) ?_)
     refine T.out.mono ?_;rintro e w3 ⟨rfl, hb⟩;have HJ3 := hd_ (HJ.out.below hb);clear hb T HJ
     try clear c5
     go_upto_region 8 with (with_reducible refine wpList_store_row rfl 55 _ _ rfl x _ rfl rfl 55 _ HJ3.out.head (stSize bb bo n cap (P + 1) ao o.length oc most) (stSz _ _ _ _ _ _ _ _ _ _ _ _ _ _ _ _ _ _) (stOne _ _ _ _ _ _ _ _ _) ?_)
     have HJ4 := hd_ (HJ3.out.read (P + 1));clear HJ3;generalize w3.setRow x (stRow bb bo n cap (P + 1) ao o.length oc most) = w4 at *;have c5 := (st_cells HJ4.out.head).1.2.2.2.2.2;have T := hd_ (stake_any bb bo n cap (P + 1) L ao o.length oc most w4 (HS.out.keepB HJ4.out.of.below HBB.out) 2 (by decide) (by have := HN.out; have := HP3.out; omega) hn2);rw [HQ2.out] at T;go_wp2_with (with_reducible refine wpList_load_row rfl 55 _ rfl x rfl 55 _ (0, 0) _ HJ4.out.head Tryz.underlying55 rfl (stSize _ _ _ _ _ _ _ _ _) ?_)
     refine T.out.mono ?_;rintro e w5 ⟨rfl, hb⟩;have HJ5 := hd_ (HJ4.out.below hb);clear hb T HJ4
     try clear c5
     go_upto_region 10 with (with_reducible refine wpList_store_row rfl 55 _ _ rfl x _ rfl rfl 55 _ HJ5.out.head (stSize bb bo n cap (P + 1 + 2) ao o.length oc most) (stSz _ _ _ _ _ _ _ _ _ _ _ _ _ _ _ _ _ _) (stOne _ _ _ _ _ _ _ _ _) ?_)
     have HJ6 := hd_ (HJ5.out.read (P + 1 + 2));clear HJ5;generalize w5.setRow x (stRow bb bo n cap (P + 1 + 2) ao o.length oc most) = w6 at *;have c5 := (st_cells HJ6.out.head).1.2.2.2.2.2;clear q1;have ST := hd_ (sstored_any (P := P + 1 + 2) (out := o) (ao := ao) (oc := oc) (most := most) (HS.out.keepB HJ6.out.of.below HBB.out) HN.out hn2 HBB.out HJ6.out.row HJ6.out.hw2 (by have := HN.out; have := HP3.out; omega) (8 * k + 8) m (by have := HKP.out; omega) HB1.out (by rw [show 8 * k + 8 + 16 = 8 * k + 24 by omega]; exact HB2x.out) hm6 (by have := HN.out; have := HB3x.out; omega) (by rw [HOL.out]; omega) hm);rw [show (8 * k + 8 + 32) / 8 = k + 5 by omega, HB4x.out] at ST;obtain ⟨o2, ho2⟩ : ∃ z, o ++ ch = z := ⟨_, rfl⟩;obtain ⟨PN, hPN⟩ : ∃ z, 8 * k + 8 + 32 + 8 * m = z := ⟨_, rfl⟩;rw [ho2, hPN] at ST;have HO2 := hd_ ho2;have HPN := hd_ hPN;clear ho2 hPN;go_wp2_with (with_reducible refine wpList_load_row rfl 55 _ rfl x rfl 55 _ (0, 0) _ HJ6.out.head Tryz.underlying55 rfl (stSize _ _ _ _ _ _ _ _ _) ?_)
     refine ST.out.mono ?_;rintro e w7 ⟨ao2, oc2, rfl, hr7, hf7⟩;have HST := hd_ (HJ6.out.step (P' := PN) hf7 hr7);clear hr7 hf7 ST HJ6 c5;go_wp2_with (with_reducible refine wpList_store_row rfl 55 _ _ rfl x _ rfl rfl 55 _ HST.out.1 (stSize bb bo n cap (PN) ao2 o2.length oc2 most) (stSz _ _ _ _ _ _ _ _ _ _ _ _ _ _ _ _ _ _) (stOne _ _ _ _ _ _ _ _ _) ?_)
     go_roundg (l.length - (i + m) + 1)
     case measure => have := Hg.out; omega
     case rel =>
      refine ⟨false, i + m, PN, ao2, oc2, o2, rfl, rfl, by omega, HOUT.out.symm.trans HO2.out, HST.out.2, (fun e => by cases e), fun _ => ⟨A ++ df.blk 0 ch, R, ?_, ?_, ?_, .inl ⟨HNX.out, by have := HPN.out; omega, by omega⟩⟩⟩
      ·rw [HLT.out, HTT.out, HSN.out]
       simp only [List.append_assoc]
      ·rw [List.length_append, HAP.out, HBL.out]
       have := HKP.out;have := HPN.out;omega
      ·have h1 := HPT.out
       rw [HTT.out, HSN.out, List.length_append, HBL.out] at h1;have := HKP.out;have := HPN.out;omega
   ·subst hi0
    rw [hT, List.append_assoc] at hLT;obtain ⟨p3, q1, q2⟩ := df.head_at hLT df.bits3_3 (by decide) (by decide);rw [hAP] at p3 q1 q2;have HLT := hd_ hLT;have HP3 := hd_ p3;have HQ2 := hd_ q2;have HTT := hd_ hT;have HGD := hd_ hgd;have HFR := hd_ hfr;have HAP := hd_ hAP;have HOE := hd_ hoe;clear hT hLT hAP hPT hfr hgd p3 q2 hoe;have T := hd_ (stake_any bb bo n cap (P) L ao o.length oc most wr (HS.out.keepB HJ.out.of.below HBB.out) 1 (by decide) (by have := HN.out; have := HP3.out; omega) hn2);rw [q1] at T;go_wp2_with (with_reducible refine wpList_load_row rfl 55 _ rfl x rfl 55 _ (0, 0) _ HJ.out.head Tryz.underlying55 rfl (stSize _ _ _ _ _ _ _ _ _) ?_)
    refine T.out.mono ?_;rintro e w3 ⟨rfl, hb⟩;have HJ3 := hd_ (HJ.out.below hb);clear hb T HJ
    try clear c5
    go_upto_region 8 with (with_reducible refine wpList_store_row rfl 55 _ _ rfl x _ rfl rfl 55 _ HJ3.out.head (stSize bb bo n cap (P + 1) ao o.length oc most) (stSz _ _ _ _ _ _ _ _ _ _ _ _ _ _ _ _ _ _) (stOne _ _ _ _ _ _ _ _ _) ?_)
    have HJ4 := hd_ (HJ3.out.read (P + 1));clear HJ3;generalize w3.setRow x (stRow bb bo n cap (P + 1) ao o.length oc most) = w4 at *;have c5 := (st_cells HJ4.out.head).1.2.2.2.2.2;have T := hd_ (stake_any bb bo n cap (P + 1) L ao o.length oc most w4 (HS.out.keepB HJ4.out.of.below HBB.out) 2 (by decide) (by have := HN.out; have := HP3.out; omega) hn2);rw [HQ2.out] at T;go_wp2_with (with_reducible refine wpList_load_row rfl 55 _ rfl x rfl 55 _ (0, 0) _ HJ4.out.head Tryz.underlying55 rfl (stSize _ _ _ _ _ _ _ _ _) ?_)
    refine T.out.mono ?_;rintro e w5 ⟨rfl, hb⟩;have HJ5 := hd_ (HJ4.out.below hb);clear hb T HJ4
    try clear c5
    go_upto_region 10 with (with_reducible refine wpList_store_row rfl 55 _ _ rfl x _ rfl rfl 55 _ HJ5.out.head (stSize bb bo n cap (P + 1 + 2) ao o.length oc most) (stSz _ _ _ _ _ _ _ _ _ _ _ _ _ _ _ _ _ _) (stOne _ _ _ _ _ _ _ _ _) ?_)
    have HJ6 := hd_ (HJ5.out.read (P + 1 + 2));clear HJ5;generalize w5.setRow x (stRow bb bo n cap (P + 1 + 2) ao o.length oc most) = w6 at *;have c5 := (st_cells HJ6.out.head).1.2.2.2.2.2;clear q1;go_wp2_with fail
    clear c5;refine (sfixed_any w6).mono ?_;rintro e w7 ⟨v1, v2, rfl, ho1, ho2, hb7⟩;have HJ7 := hd_ (HJ6.out.below hb7);obtain ⟨r1, cc1, rfl, hsa⟩ := own_nats ho1 (by rw [df.fixL_length]; decide) df.fixL_ok.le;obtain ⟨r2, cc2, rfl, hsb⟩ := own_nats ho2 (by rw [df.fixD_length]; decide) df.fixD_ok.le;rw [df.fixL_length] at hsa ⊢;rw [df.fixD_length] at hsb ⊢;have HSA := hd_ hsa;have HSB := hd_ hsb;have HANY : Hid (∃ z ∈ df.fixL, 1 <= z) := hd_ ⟨df.fixL.getD 0 0, pf.getD_mem (by rw [df.fixL_length]; decide), df.fixL_pos 0 (by decide)⟩;have hL5 : L = (A ++ bt.bitsOf false 3 3) ++ (df.bodyBits df.fixL df.fixD ps ++ E) := (by rw [HLT.out]; simp only [List.append_assoc]);have HL5 := hd_ hL5;clear ho1 ho2 hb7 hsa hsb HJ6 hL5;go_upto_region 17 with (fail)
    have CA := hd_ (fun u (hb : Below w7.heap.size w7 u) => rtabled_any _ 288 cc1 (df.fixL) u (HSA.out.below hb) (by decide) df.fixL_ok);have CB := hd_ (fun u (hb : Below w7.heap.size w7 u) => rtabled_any _ 30 cc2 (df.fixD) u (HSB.out.below hb) (by decide) df.fixD_ok);have SYM := hd_ (fun (u : World) (of1 of2 : Nat -> Value) (any2 : Bool) (hb : Below w7.heap.size w7 u) (h1 : RTo w7.heap.size u (df.fixL) of1) (h2 : RTo w7.heap.size u (df.fixD) of2) (hany : (∃ z ∈ (df.fixD), 1 <= z) -> any2 = true) =>
     ssymbols_any (P := P + 1 + 2) (i0 := 0) (j := l.length) (oc := oc) (ao := ao) (most := most) (l := l) (HS.out.keepB (HJ7.out.below hb).of.below HBB.out) HN.out hn2 HBB.out (by rw [HOE.out]; exact (HJ7.out.below hb).row) (HJ7.out.below hb).hw2 (df.fixL) (df.fixD) of1 of2 any2 h1 h2 df.fixL_ok df.fixD_ok (by rw [df.fixL_length]; decide) (by rw [df.fixL_length]; decide) (by rw [df.fixD_length]; decide) (by rw [df.fixD_length]; decide) hany ps HFR.out (fun p hp => df.fix_covers (HGD.out p hp)) (df.fixL_pos 256 (by decide)) (A ++ bt.bitsOf false 3 3) E HL5.out (by rw [List.length_append, bt.bitsOf_length, HAP.out]) HBY.out hl hm)
    rw [HOE.out] at SYM;obtain ⟨PN, hPN⟩ : ∃ z, P + 1 + 2 + (df.bodyBits (df.fixL) (df.fixD) ps).length = z := ⟨_, rfl⟩;rw [hPN] at SYM;have HPN := hd_ hPN;obtain ⟨o2, ho2⟩ : ∃ z, l.take l.length = z := ⟨_, rfl⟩;rw [ho2] at SYM;have HO2 := hd_ ho2;obtain ⟨PQ, hPQ⟩ : ∃ z, P + 1 + 2 = z := ⟨_, rfl⟩;rw [hPQ] at SYM HJ7;clear hPN ho2 hPQ;obtain ⟨c0, c1, c2, c3, c4, c5⟩ := (st_cells HJ7.out.head).1;refine wp_region_any (by kernel_rfl) ?_;refine wpAny_laid_tails (D := fun i => ([55, 56, 57, 58, 59] : List Nat).getD i 0)
     (R := fun rj v w' => match rj with
      | 0 => v = .agg (stRow bb bo n cap PQ ao o.length oc most)
      | 1 => v = .slice (some ⟨r1, 0, none⟩) 288 cc1
      | 2 => NewT w7.heap.size (df.fixL) v w'
      | 3 => v = .slice (some ⟨r2, 0, none⟩) 30 cc2
      | 4 => NewT w7.heap.size (df.fixD) v w'
      | _ => True)
     (S := fun a' w' => (a'.tmps[7]? = some (.pointer (some ⟨x, 0, none⟩)) /\ a'.tmps[10]? = some (.slice (some ⟨r1, 0, none⟩) 288 cc1) /\ a'.tmps[11]? = some (.slice (some ⟨r2, 0, none⟩) 30 cc2)) /\ Below w7.heap.size w7 w')
     5 (by decide) (by kernel_rfl) (by decide +kernel) (by decide +kernel) (by decide +kernel) (by decide +kernel) (by kernel_rfl) ?_ ?_ ?_ ?_
    ·intro i v u u' h hb
     match i, h with
     | 0, h => exact h
     | 1, h => exact h
     | 2, h => exact NewT.below h hb
     | 3, h => exact h
     | 4, h => exact NewT.below h hb
     | i + 5, _ => trivial
    ·intro a' u hb _ hold
     exact ⟨⟨hold 7 (by decide), hold 10 (by decide), hold 11 (by decide)⟩, hb⟩
    ·refine ⟨?_, ?_, ?_, ?_, ?_, trivial⟩
     ·intro a' u hS hd
      clear hd;have g0 := hS.1.1;have x0 := keep_cell hS.2 c0;have x1 := keep_cell hS.2 c1;have x2 := keep_cell hS.2 c2;have x3 := keep_cell hS.2 c3;have x4 := keep_cell hS.2 c4;have x5 := keep_cell hS.2 c5;go_simp
      exact ⟨_, rfl, rfl, Below.refl _ _⟩
     ·intro a' u hS hd
      clear hd;have g0 := hS.1.2.1;go_simp
      exact ⟨_, rfl, rfl, Below.refl _ _⟩
     ·intro a' u hS hd
      obtain ⟨_, e0, rfl⟩ := hd 1 (by kernel_rfl);have f0 : a'.tmps[56]? = some _ := e0;clear e0;clear hd;go_simp
      refine (CA.out u hS.2).mono ?_;rintro e u' ⟨of, any, rfl, z1, z2, z3⟩;exact ⟨_, rfl, ⟨of, any, rfl, ⟨fun k hk hk2 => World.ownsRow.mono (z1 k hk hk2) hS.2.size⟩, z2⟩, z3⟩
     ·intro a' u hS hd
      clear hd;have g0 := hS.1.2.2;go_simp
      exact ⟨_, rfl, rfl, Below.refl _ _⟩
     ·intro a' u hS hd
      obtain ⟨_, e0, rfl⟩ := hd 3 (by kernel_rfl);have f0 : a'.tmps[58]? = some _ := e0;clear e0;clear hd;go_simp
      refine (CB.out u hS.2).mono ?_;rintro e u' ⟨of, any, rfl, z1, z2, z3⟩;exact ⟨_, rfl, ⟨of, any, rfl, ⟨fun k hk hk2 => World.ownsRow.mono (z1 k hk hk2) hS.2.size⟩, z2⟩, z3⟩
    ·intro a' u h
     obtain ⟨_, e55, rfl⟩ := h.new 0 (by decide) (by decide +kernel);replace e55 : a'.tmps[55]? = some (.agg (stRow bb bo n cap PQ ao o.length oc most)) := e55;obtain ⟨_, e57, ofa, anya, rfl, hta, hna⟩ := h.new 2 (by decide) (by decide +kernel);replace e57 : a'.tmps[57]? = some (.agg (gRow (rt.F (rt.fM (df.fixL) 16) ofa anya) 37)) := e57;obtain ⟨_, e59, ofb, anyb, rfl, htb, hnb⟩ := h.new 4 (by decide) (by decide +kernel);replace e59 : a'.tmps[59]? = some (.agg (gRow (rt.F (rt.fM (df.fixD) 16) ofb anyb) 37)) := e59;have htm := tmps_set h.size [55, 56, 57, 58, 59] (fun d hd => h.old d (fun i hi e => hd (by rw [<- e]; exact mem_getD hi)));have hdf : a'.defers = [] := h.defers;have hbu := h.below;clear h;obtain ⟨fx, hf⟩ : ∃ f : Nat -> Value, (fun i => a'.tmps.getD i undef) = f := ⟨_, rfl⟩;replace e55 : (fun i => a'.tmps.getD i undef) 55 = _ := slot_of e55;replace e57 : (fun i => a'.tmps.getD i undef) 57 = _ := slot_of e57;replace e59 : (fun i => a'.tmps.getD i undef) 59 = _ := slot_of e59;have hff : ∀ i, a'.tmps.getD i undef = fx i := fun i => congrFun hf i
     simp only [hff] at e55 e57 e59;simp only [List.foldl_cons, List.foldl_nil, hff] at htm;obtain ⟨tmps, defers⟩ := a';dsimp only at hdf htm;subst hdf;rw [htm, e55, e57, e59];clear htm hf hff e55 e57 e59;have HTA := hd_ hta;have HTB := hd_ htb;have HNB := hd_ hnb;have HBU := hd_ hbu;obtain rfl := hna HANY.out;clear hta htb hnb hna hbu c0 c1 c2 c3 c4 c5 CA CB;simp only [List.setIfInBounds_toArray, List.set_cons_succ, List.set_cons_zero];go_wp2_with fail
     refine (SYM.out _ _ _ _ HBU.out HTA.out HTB.out HNB.out).mono ?_;rintro e w9 ⟨ao2, oc2, rfl, hr9, hf9⟩;have HST := hd_ ((HJ7.out.below HBU.out).step (P' := PN) hf9 hr9);clear hr9 hf9 SYM HTA HTB HNB HBU HJ7;go_wp2_with (with_reducible refine wpList_store_row rfl 55 _ _ rfl x _ rfl rfl 55 _ HST.out.1 (stSize bb bo n cap (PN) ao2 o2.length oc2 most) (stSz _ _ _ _ _ _ _ _ _ _ _ _ _ _ _ _ _ _) (stOne _ _ _ _ _ _ _ _ _) ?_)
     go_roundg 0
     case measure => have := Hg.out; omega
     case rel =>
      refine ⟨true, l.length, PN, ao2, oc2, o2, rfl, rfl, Nat.le_refl _, HO2.out, HST.out.2, (fun _ => ⟨rfl, ?_⟩), (fun e => by cases e)⟩;have := HPT.out;rw [HTT.out] at this;simp only [List.length_append, bt.bitsOf_length] at this;have := HPN.out;omega
   ·subst hi0
    rw [hT] at hLT;have hLT5 : L = A ++ (bt.bitsOf false 5 3 ++ (df.headBits C (Lt ++ Dt) ++ (df.bodyBits Lt Dt ps ++ E))) := (by rw [hLT]; simp only [List.append_assoc]);obtain ⟨p3, q1, q2⟩ := df.head_at hLT5 df.bits3_5 (by decide) (by decide);rw [hAP] at p3 q1 q2;have HLT := hd_ hLT5;have HP3 := hd_ p3;have HQ2 := hd_ q2;have HTT := hd_ hT;have HFR := hd_ hfr;have HAP := hd_ hAP;have HOE := hd_ hoe;have HML := hd_ mL;have HMD := hd_ mD;have HCV := hd_ cv;have HE2 := hd_ e2;have HLN := hd_ (And.intro l1 l2);have HX := hd_ (And.intro l1 (And.intro l2 (And.intro l3 (And.intro mL (And.intro mD (And.intro mC (And.intro c7 (And.intro cp e2))))))));clear hT hLT hLT5 hAP hPT hfr p3 q2 hoe l1 l2 l3 mL mD mC c7 cp cv e2;have T := hd_ (stake_any bb bo n cap (P) L ao o.length oc most wr (HS.out.keepB HJ.out.of.below HBB.out) 1 (by decide) (by have := HN.out; have := HP3.out; omega) hn2);rw [q1] at T;go_wp2_with (with_reducible refine wpList_load_row rfl 55 _ rfl x rfl 55 _ (0, 0) _ HJ.out.head Tryz.underlying55 rfl (stSize _ _ _ _ _ _ _ _ _) ?_)
    refine T.out.mono ?_;rintro e w3 ⟨rfl, hb⟩;have HJ3 := hd_ (HJ.out.below hb);clear hb T HJ
    try clear c5
    go_upto_region 8 with (with_reducible refine wpList_store_row rfl 55 _ _ rfl x _ rfl rfl 55 _ HJ3.out.head (stSize bb bo n cap (P + 1) ao o.length oc most) (stSz _ _ _ _ _ _ _ _ _ _ _ _ _ _ _ _ _ _) (stOne _ _ _ _ _ _ _ _ _) ?_)
    have HJ4 := hd_ (HJ3.out.read (P + 1));clear HJ3;generalize w3.setRow x (stRow bb bo n cap (P + 1) ao o.length oc most) = w4 at *;have c5 := (st_cells HJ4.out.head).1.2.2.2.2.2;have T := hd_ (stake_any bb bo n cap (P + 1) L ao o.length oc most w4 (HS.out.keepB HJ4.out.of.below HBB.out) 2 (by decide) (by have := HN.out; have := HP3.out; omega) hn2);rw [HQ2.out] at T;go_wp2_with (with_reducible refine wpList_load_row rfl 55 _ rfl x rfl 55 _ (0, 0) _ HJ4.out.head Tryz.underlying55 rfl (stSize _ _ _ _ _ _ _ _ _) ?_)
    refine T.out.mono ?_;rintro e w5 ⟨rfl, hb⟩;have HJ5 := hd_ (HJ4.out.below hb);clear hb T HJ4
    try clear c5
    go_upto_region 10 with (with_reducible refine wpList_store_row rfl 55 _ _ rfl x _ rfl rfl 55 _ HJ5.out.head (stSize bb bo n cap (P + 1 + 2) ao o.length oc most) (stSz _ _ _ _ _ _ _ _ _ _ _ _ _ _ _ _ _ _) (stOne _ _ _ _ _ _ _ _ _) ?_)
    have HJ6 := hd_ (HJ5.out.read (P + 1 + 2));clear HJ5;generalize w5.setRow x (stRow bb bo n cap (P + 1 + 2) ao o.length oc most) = w6 at *;have c5 := (st_cells HJ6.out.head).1.2.2.2.2.2;clear q1;have hL4 : L = (A ++ bt.bitsOf false 5 3) ++ (df.headBits C (Lt ++ Dt) ++ (df.bodyBits Lt Dt ps ++ E)) := (by rw [HLT.out]; simp only [List.append_assoc]);have DY := hd_ (by
     obtain ⟨l1, l2, l3, mL, mD, mC, c7, cp, e2⟩ := HX.out;exact stables_any (P := P + 1 + 2) (ol := o.length) (oc := oc) (ao := ao) (most := most) (HS.out.keepB HJ6.out.of.below HBB.out) HN.out hn2 l1 l2 l3 mL mD mC c7 cp e2 (A ++ bt.bitsOf false 5 3) (df.bodyBits Lt Dt ps ++ E) hL4 (by rw [List.length_append, bt.bitsOf_length, HAP.out]))
    obtain ⟨P7, hP7⟩ : ∃ z, P + 1 + 2 + (df.headBits C (Lt ++ Dt)).length = z := ⟨_, rfl⟩;rw [hP7] at DY;have HP7 := hd_ hP7;clear hL4 hP7 HX;go_wp2_with (with_reducible refine wpList_load_row rfl 55 _ rfl x rfl 55 _ (0, 0) _ HJ6.out.head Tryz.underlying55 rfl (stSize _ _ _ _ _ _ _ _ _) ?_)
    refine DY.out.mono ?_;rintro e w7 ⟨a1, cc1, a2, cc2, rfl, hsa, hsb, hb7⟩;have HJ7 := hd_ (HJ6.out.below hb7);clear c5 DY HJ6;go_upto_region 21 with (with_reducible refine wpList_store_row rfl 55 _ _ rfl x _ rfl rfl 55 _ HJ7.out.head (stSize bb bo n cap (P7) ao o.length oc most) (stSz _ _ _ _ _ _ _ _ _ _ _ _ _ _ _ _ _ _) (stOne _ _ _ _ _ _ _ _ _) ?_)
    have HJ8 := hd_ (HJ7.out.read P7);have hg8 := grownBy_setRow w7 x (stRow bb bo n cap P7 ao o.length oc most);have HSA := hd_ (sl_apart6 hsa (by decide) HJ7.out.head hg8);have HSB := hd_ (sl_apart6 hsb (by decide) HJ7.out.head hg8);clear hsa hsb hb7 hg8 HJ7;generalize w7.setRow x (stRow bb bo n cap P7 ao o.length oc most) = w8 at *;have c5 := (st_cells HJ8.out.head).1.2.2.2.2.2;have HANY : Hid (∃ z ∈ Lt, 1 <= z) := hd_ ⟨Lt.getD 256 0, pf.getD_mem (by rw [HLN.out.1]; decide), HE2.out⟩;have hL5 : L = (A ++ bt.bitsOf false 5 3 ++ df.headBits C (Lt ++ Dt)) ++ (df.bodyBits Lt Dt ps ++ E) := (by rw [HLT.out]; simp only [List.append_assoc]);have HL5 := hd_ hL5;clear hL5;go_upto_region 22 with (fail)
    clear c5;have CA := hd_ (fun u (hb : Below w8.heap.size w8 u) => rtabled_any _ 286 cc1 (Lt) u (HSA.out.below hb) (by decide) HML.out.ok);have CB := hd_ (fun u (hb : Below w8.heap.size w8 u) => rtabled_any _ 30 cc2 (Dt) u (HSB.out.below hb) (by decide) HMD.out.ok);have SYM := hd_ (fun (u : World) (of1 of2 : Nat -> Value) (any2 : Bool) (hb : Below w8.heap.size w8 u) (h1 : RTo w8.heap.size u (Lt) of1) (h2 : RTo w8.heap.size u (Dt) of2) (hany : (∃ z ∈ (Dt), 1 <= z) -> any2 = true) =>
     ssymbols_any (P := P7) (i0 := 0) (j := l.length) (oc := oc) (ao := ao) (most := most) (l := l) (HS.out.keepB (HJ8.out.below hb).of.below HBB.out) HN.out hn2 HBB.out (by rw [HOE.out]; exact (HJ8.out.below hb).row) (HJ8.out.below hb).hw2 (Lt) (Dt) of1 of2 any2 h1 h2 HML.out.ok HMD.out.ok (by have := HLN.out; omega) (by have := HLN.out; omega) (by have := HLN.out; omega) (by have := HLN.out; omega) hany ps HFR.out HCV.out HE2.out (A ++ bt.bitsOf false 5 3 ++ df.headBits C (Lt ++ Dt)) E HL5.out (by rw [List.length_append, List.length_append, bt.bitsOf_length, HAP.out, <- HP7.out]) HBY.out hl hm)
    rw [HOE.out] at SYM;obtain ⟨PN, hPN⟩ : ∃ z, P7 + (df.bodyBits (Lt) (Dt) ps).length = z := ⟨_, rfl⟩;rw [hPN] at SYM;have HPN := hd_ hPN;obtain ⟨o2, ho2⟩ : ∃ z, l.take l.length = z := ⟨_, rfl⟩;rw [ho2] at SYM;have HO2 := hd_ ho2;obtain ⟨PQ, hPQ⟩ : ∃ z, P7 = z := ⟨_, rfl⟩;rw [hPQ] at SYM HJ8;clear hPN ho2 hPQ;obtain ⟨c0, c1, c2, c3, c4, c5⟩ := (st_cells HJ8.out.head).1;refine wp_region_any (by kernel_rfl) ?_;refine wpAny_laid_tails (D := fun i => ([72, 73, 74, 75, 76] : List Nat).getD i 0)
     (R := fun rj v w' => match rj with
      | 0 => v = .agg (stRow bb bo n cap PQ ao o.length oc most)
      | 1 => v = .slice a1 286 cc1
      | 2 => NewT w8.heap.size (Lt) v w'
      | 3 => v = .slice a2 30 cc2
      | 4 => NewT w8.heap.size (Dt) v w'
      | _ => True)
     (S := fun a' w' => (a'.tmps[7]? = some (.pointer (some ⟨x, 0, none⟩)) /\ a'.tmps[12]? = some (.slice a1 286 cc1) /\ a'.tmps[13]? = some (.slice a2 30 cc2)) /\ Below w8.heap.size w8 w')
     5 (by decide) (by kernel_rfl) (by decide +kernel) (by decide +kernel) (by decide +kernel) (by decide +kernel) (by kernel_rfl) ?_ ?_ ?_ ?_
    ·intro i v u u' h hb
     match i, h with
     | 0, h => exact h
     | 1, h => exact h
     | 2, h => exact NewT.below h hb
     | 3, h => exact h
     | 4, h => exact NewT.below h hb
     | i + 5, _ => trivial
    ·intro a' u hb _ hold
     exact ⟨⟨hold 7 (by decide), hold 12 (by decide), hold 13 (by decide)⟩, hb⟩
    ·refine ⟨?_, ?_, ?_, ?_, ?_, trivial⟩
     ·intro a' u hS hd
      clear hd;have g0 := hS.1.1;have x0 := keep_cell hS.2 c0;have x1 := keep_cell hS.2 c1;have x2 := keep_cell hS.2 c2;have x3 := keep_cell hS.2 c3;have x4 := keep_cell hS.2 c4;have x5 := keep_cell hS.2 c5;go_simp
      exact ⟨_, rfl, rfl, Below.refl _ _⟩
     ·intro a' u hS hd
      clear hd;have g0 := hS.1.2.1;go_simp
      exact ⟨_, rfl, rfl, Below.refl _ _⟩
     ·intro a' u hS hd
      obtain ⟨_, e0, rfl⟩ := hd 1 (by kernel_rfl);have f0 : a'.tmps[73]? = some _ := e0;clear e0;clear hd;go_simp
      refine (CA.out u hS.2).mono ?_;rintro e u' ⟨of, any, rfl, z1, z2, z3⟩;exact ⟨_, rfl, ⟨of, any, rfl, ⟨fun k hk hk2 => World.ownsRow.mono (z1 k hk hk2) hS.2.size⟩, z2⟩, z3⟩
     ·intro a' u hS hd
      clear hd;have g0 := hS.1.2.2;go_simp
      exact ⟨_, rfl, rfl, Below.refl _ _⟩
     ·intro a' u hS hd
      obtain ⟨_, e0, rfl⟩ := hd 3 (by kernel_rfl);have f0 : a'.tmps[75]? = some _ := e0;clear e0;clear hd;go_simp
      refine (CB.out u hS.2).mono ?_;rintro e u' ⟨of, any, rfl, z1, z2, z3⟩;exact ⟨_, rfl, ⟨of, any, rfl, ⟨fun k hk hk2 => World.ownsRow.mono (z1 k hk hk2) hS.2.size⟩, z2⟩, z3⟩
    ·intro a' u h
     obtain ⟨_, e72, rfl⟩ := h.new 0 (by decide) (by decide +kernel);replace e72 : a'.tmps[72]? = some (.agg (stRow bb bo n cap PQ ao o.length oc most)) := e72;obtain ⟨_, e74, ofa, anya, rfl, hta, hna⟩ := h.new 2 (by decide) (by decide +kernel);replace e74 : a'.tmps[74]? = some (.agg (gRow (rt.F (rt.fM (Lt) 16) ofa anya) 37)) := e74;obtain ⟨_, e76, ofb, anyb, rfl, htb, hnb⟩ := h.new 4 (by decide) (by decide +kernel);replace e76 : a'.tmps[76]? = some (.agg (gRow (rt.F (rt.fM (Dt) 16) ofb anyb) 37)) := e76;have htm := tmps_set h.size [72, 73, 74, 75, 76] (fun d hd => h.old d (fun i hi e => hd (by rw [<- e]; exact mem_getD hi)));have hdf : a'.defers = [] := h.defers;have hbu := h.below;clear h;obtain ⟨fx, hf⟩ : ∃ f : Nat -> Value, (fun i => a'.tmps.getD i undef) = f := ⟨_, rfl⟩;replace e72 : (fun i => a'.tmps.getD i undef) 72 = _ := slot_of e72;replace e74 : (fun i => a'.tmps.getD i undef) 74 = _ := slot_of e74;replace e76 : (fun i => a'.tmps.getD i undef) 76 = _ := slot_of e76;have hff : ∀ i, a'.tmps.getD i undef = fx i := fun i => congrFun hf i
     simp only [hff] at e72 e74 e76;simp only [List.foldl_cons, List.foldl_nil, hff] at htm;obtain ⟨tmps, defers⟩ := a';dsimp only at hdf htm;subst hdf;rw [htm, e72, e74, e76];clear htm hf hff e72 e74 e76;have HTA := hd_ hta;have HTB := hd_ htb;have HNB := hd_ hnb;have HBU := hd_ hbu;obtain rfl := hna HANY.out;clear hta htb hnb hna hbu c0 c1 c2 c3 c4 c5 CA CB;simp only [List.setIfInBounds_toArray, List.set_cons_succ, List.set_cons_zero];go_wp2_with fail
     refine (SYM.out _ _ _ _ HBU.out HTA.out HTB.out HNB.out).mono ?_;rintro e w9 ⟨ao2, oc2, rfl, hr9, hf9⟩;have HST := hd_ ((HJ8.out.below HBU.out).step (P' := PN) hf9 hr9);clear hr9 hf9 SYM HTA HTB HNB HBU HJ8;go_wp2_with (with_reducible refine wpList_store_row rfl 55 _ _ rfl x _ rfl rfl 55 _ HST.out.1 (stSize bb bo n cap (PN) ao2 o2.length oc2 most) (stSz _ _ _ _ _ _ _ _ _ _ _ _ _ _ _ _ _ _) (stOne _ _ _ _ _ _ _ _ _) ?_)
     go_roundg 0
     case measure => have := Hg.out; omega
     case rel =>
      refine ⟨true, l.length, PN, ao2, oc2, o2, rfl, rfl, Nat.le_refl _, HO2.out, HST.out.2, (fun _ => ⟨rfl, ?_⟩), (fun e => by cases e)⟩;have := HPT.out;rw [HTT.out] at this;simp only [List.length_append, bt.bitsOf_length] at this;have := HPN.out;have := HP7.out;omega
  ·obtain ⟨hil, hPS⟩ := hend rfl
   subst hil hPS;clear hend htodo;have hol : o = l := (by rw [<- hoe, List.take_length]);rw [hol] at HJ;have hSn : S.length <= 274877906944 := (by have h1 := HN.out; have h2 := congrArg List.length HLL.out; rw [List.length_append] at h2; omega);obtain ⟨Sn, hSne⟩ : ∃ z, S.length = z := ⟨_, rfl⟩;rw [hSne] at HJ hSn;have HSN := hd_ hSne;have w7 : IntKind.i64.wrap ((Sn : Int) + 7) = ((Sn + 7 : Nat) : Int) := i64o (by omega) (by omega);obtain ⟨S7, hS7⟩ : ∃ z, Sn + 7 = z := ⟨_, rfl⟩;rw [hS7] at w7;have HS7 := hd_ hS7;obtain ⟨us, hus⟩ : ∃ z, S7 / 8 = z := ⟨_, rfl⟩;have hus1 : (S7 : Int) / 8 = (us : Int) := (by omega);have hus2 : Int.tdiv (S7 : Int) 8 = (us : Int) := (by rw [Int.tdiv_eq_ediv_of_nonneg (by omega)]; exact hus1);have HUS := hd_ hus;have w8 : IntKind.i64.wrap (us : Int) = (us : Int) := i64i (by omega);obtain ⟨ln, hln⟩ : ∃ z, l.length = z := ⟨_, rfl⟩;obtain ⟨c0, c1, c2, c3, c4, _⟩ := (st_cells HJ.out.head).1;rw [hln] at c3;have HLN := hd_ hln;clear hSne hS7 hus hln hol hoe hi;go_upto_region 25 with (fail)
   go_quiet (fail)
   have HB := hd_ (HJ.out.of.below);have hbq := below_drewN (Below.refl wr.heap.size wr) nq;have HR := hd_ (ownsRow_below HJ.out.row hbq);have HBQ := hd_ (HJ.out.of.below.trans (hbq.mono HJ.out.hw2));clear hbq;generalize wr.drewN nq = w5 at *;go_wp2_with fail
   go_ret3
   unfold SRawPost;rw [HLN.out] at HR;rw [HB1E.out, HSN.out, HS7.out, HUS.out, HLN.out];exact ⟨_, rfl, HR.out, HBQ.out⟩
end Go.Proofs.YthpckmcgbmfmcaaGreatDoor
