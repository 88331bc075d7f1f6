/- Texts of this claim, joined. -/
import Derived.Test.YthpckmcgbmfmcaaGreatDoorM30
import Derived.Test.YthpckmcgbmfmcaaGreatDoorM37
import Derived.Test.YthpckmcgbmfmcaaGreatDoorM38
import Derived.Test.YthpckmcgbmfmcaaGreatDoorM53
set_option maxRecDepth 100000
set_option maxHeartbeats 12800000
namespace Go.Proofs.YthpckmcgbmfmcaaGreatDoor
open Go.RowKit Go.Sort
namespace df
inductive Stream (l : List Int) : List Bool -> Prop
 | sto : Stream l (sto l)
 | fix (ps : List Piece) : From l 0 ps l.length -> (∀ p ∈ ps, Good p) -> Stream l (bt.bitsOf false 3 3 ++ bodyBits fixL fixD ps)
 | dyn (ps : List Piece) (L D C : List Nat) : From l 0 ps l.length -> (∀ p ∈ ps, Good p) -> L.length = 286 -> D.length = 30 -> C.length = 19 -> Made L -> Made D -> Made C -> (∀ x ∈ C, x <= 7) -> (∀ x ∈ L ++ D, 1 <= C.getD x 0) -> (∀ p ∈ ps, Covers L D p) -> 1 <= L.getD 256 0 -> Stream l (bt.bitsOf false 5 3 ++ headBits C (L ++ D) ++ bodyBits L D ps)
theorem body_len {L D : List Nat} (hL : pf.Ok L) (hD : pf.Ok D) {ps : List Piece} (h : ∀ p ∈ ps, Good p) : (bodyBits L D ps).length <= 64 * ps.length + 16 := by
 unfold bodyBits;rw [List.length_append, sb_length];have h1 := flat_le hL hD h;have h2 := getD_le16 hL 256;omega
theorem head_len {C R : List Nat} (hC : pf.Ok C) (hR : R.length = 316) : (headBits C R).length <= 8192 := by
 unfold headBits;have h1 := row_le hC (R := R) R.length;rw [List.take_length, hR] at h1;have h2 := order_le C 19;rw [show order.take 19 = order from rfl] at h2;simp only [List.length_append, bt.bitsOf_length];omega
theorem sto_le (l : List Int) : (sto l).length <= 40 + 48 * l.length := by
 have hb : ∀ (k : Nat) (m : List Int), (blk k m).length = 40 + 8 * m.length := fun k m => by
  unfold blk;simp only [List.length_append, bt.bitsOf_length, List.length_replicate, bytes8_length]
 by_cases h : l.length <= 65535
 ·rw [sto_last h, hb]
  omega
 ·rw [sto_more h, List.length_append, hb]
  have := sto_le (l.drop 65535);rw [List.length_drop] at this;rw [List.length_take];omega
termination_by l.length
decreasing_by rw [List.length_drop]; omega
end df
theorem fresh_below {k : IntKind} {t : TypeId} {base : Nat} {w w' : World} {v : Value} {n : Nat} {l : List Int} (h : Fresh k t base w v n l) (hb : Below w.heap.size w w') : Fresh k t base w' v n l := by
 obtain ⟨b, c, e, h1, h2⟩ := h;exact ⟨b, c, e, h1, ownsRow_below h2 hb⟩
theorem fresh_mono {k : IntKind} {t : TypeId} {base base' : Nat} {w : World} {v : Value} {n : Nat} {l : List Int} (h : Fresh k t base w v n l) (hb : base' <= base) : Fresh k t base' w v n l := by
 obtain ⟨b, c, e, h1, h2⟩ := h;exact ⟨b, c, e, Nat.le_trans hb h1, World.ownsRow.mono h2 hb⟩
def RawPost (l : List Int) (w : World) (e : Ending) (w' : World) : Prop :=
 ∃ S v, df.Stream l S /\ e = .returned (.tuple #[v, .int .i64 0]) /\ Fresh .u8 5 w.heap.size w' v ((S.length + 7) / 8) (bt.bytes false S) /\ Below w.heap.size w w' /\ S.length <= 1073741824
theorem raw_any (a : Option Addr) (n cap : Nat) (l : List Int) (lv : Nat) (w : World) (h : Sl .u8 w a n cap l) (hn : n <= 8388608) (hlv : lv <= 2) :
  Calls Tryz.prog 19 #[.slice a n cap, .int .i64 (lv : Nat)] w (RawPost l w) := by
 have CS := hd_ (stored_any a n cap l w h (by omega));have CP := hd_ (fun w' hb => pieces_any a n cap l w' (Sl.below h hb) h.bytes hn);have CW := hd_ newWriter_any;have CF := hd_ fixed_any;have HS := hd_ h;have hl := h.len;have HL := hd_ hl;clear h hl;have hlv1 : ¬ (lv : Int) < 0 := by omega
 have hlv2 : ¬ (2 : Int) < (lv : Int) := by omega
 have hstl : (df.sto l).length <= 1073741824 := by have := df.sto_le l; have := HL.out; omega
 have HSTL := hd_ hstl;clear hstl;go_enter Tryz.func19, Tryz.ntmps19
 go_wp2_with fail
 refine CS.out.mono ?_;rintro e w1 ⟨v1, rfl, hf1, hb1⟩;have HF1 := hd_ hf1;have HB1 := hd_ hb1;have CP1 := hd_ (CP.out w1 hb1);clear hf1 hb1 CS CP;by_cases hz : lv = 0
 ·have hz' : ((lv : Int) == 0) = true := by simp [hz]
  subst hz;go_wp2_with fail
  go_ret2
  exact ⟨_, v1, .sto, rfl, HF1.out, HB1.out, HSTL.out⟩
 ·have hz' : ((lv : Int) == 0) = false := by simp; exact hz
  go_wp2_with fail
  refine CP1.out.mono ?_;rintro e w2 ⟨pa, pn, pc, ps, rfl, hpz, hgd, hfr, hpn, hb2⟩;have HPZ := hd_ hpz;have HGD := hd_ hgd;have HFR := hd_ hfr;have hpn2 : pn <= 8388608 := by rw [HL.out] at hpn; omega
  have HF2 := hd_ (fresh_below HF1.out hb2);have HB2 := hd_ (HB1.out.trans (hb2.mono HB1.out.size));clear hpz hgd hfr hpn hb2 CP1 HF1 HB1;go_wp2_with fail
  refine (CW.out false w2).mono ?_;rintro e w3 ⟨g, rfl, hw3, hb3⟩;have HW3 := hd_ hw3;have HB3 := hd_ hb3;have P1 := hd_ (put_any hw3 hb3.size 3 3 (by decide) (by decide) (by decide));clear hw3 hb3;go_wp2_with fail
  refine P1.out.mono ?_;rintro e w4 ⟨rfl, v4, hw4, hf4⟩;have HW4 := hd_ hw4;have HB4 := hd_ (HB3.out.trans hf4.below);clear hw4 hf4 P1 HW3 HB3;go_wp2_with fail
  refine (CF.out w4).mono ?_;rintro e w5 ⟨lb, lc, db, dc, rfl, hi1, hi2, hb5⟩;have HI1 := hd_ hi1;have HI2 := hd_ hi2;have HW5 := hd_ (HW4.out.below hb5);have HB5 := hd_ (HB4.out.trans (hb5.mono HB4.out.size));have HP5 := hd_ (HPZ.out.below HB5.out);clear hi1 hi2 hb5 HW4 HB4;have BD := hd_ (body_any HW5.out HB5.out.size pa pn pc ps HP5.out HGD.out lb 288 lc df.fixL HI1.out (by decide) (by decide) df.fixL_ok db 30 dc df.fixD HI2.out (by decide) (by decide) df.fixD_ok (by omega) (by rw [List.nil_append, bt.bitsOf_length]; omega));go_wp2_with fail
  refine BD.out.mono ?_;rintro e w6 ⟨rfl, v6, hw6, hf6⟩;have hb6 := HB5.out.trans hf6.below;rw [List.nil_append] at hw6;have hsl : (bt.bitsOf false 3 3 ++ df.bodyBits df.fixL df.fixD ps).length <= 1073741824 := by
   have h1 := df.body_len df.fixL_ok df.fixD_ok HGD.out;have h2 := HPZ.out.len;rw [List.length_append, bt.bitsOf_length];omega
  have hs0 : 0 < (bt.bitsOf false 3 3 ++ df.bodyBits df.fixL df.fixD ps).length := by rw [List.length_append, bt.bitsOf_length]; omega
  have CB := hd_ (wbytes_any hw6 (Nat.le_trans hsl (by decide)) hs0);have HST : Hid (df.Stream l (bt.bitsOf false 3 3 ++ df.bodyBits df.fixL df.fixD ps)) := hd_ (.fix ps HFR.out HGD.out);have HSL := hd_ hsl;obtain ⟨S2, hS2⟩ : ∃ z, bt.bitsOf false 3 3 ++ df.bodyBits df.fixL df.fixD ps = z := ⟨_, rfl⟩;rw [hS2] at CB HST HSL;have HB6 := hd_ (HB2.out.trans (hb6.mono HB2.out.size));have HF6 := hd_ (fresh_below HF2.out hb6);have HP6 := hd_ (HPZ.out.below hb6);clear hw6 hf6 hb6 hsl hs0 hS2 BD HF2 HP5 HB5 HW5 HI1 HI2;go_wp2_with fail
  refine CB.out.mono ?_;rintro e w7 ⟨v7, rfl, hf7, hb7⟩;have HF7 := hd_ (fresh_mono hf7 HB6.out.size);have HF1 := hd_ (fresh_below HF6.out hb7);have HB7 := hd_ (HB6.out.trans (hb7.mono HB6.out.size));have HP7 := hd_ (HP6.out.below hb7);clear hf7 hb7 CB HF6 HB6 HP6 HPZ;obtain ⟨y1, z1, ev1, _, hr1⟩ := HF1.out;obtain ⟨y7, z7, ev7, _, hr7⟩ := HF7.out;obtain ⟨n1, hn1⟩ : ∃ z, ((df.sto l).length + 7) / 8 = z := ⟨_, rfl⟩;obtain ⟨n7, hn7⟩ : ∃ z, (S2.length + 7) / 8 = z := ⟨_, rfl⟩;rw [hn1] at ev1 HF1;rw [hn7] at ev7 HF7;subst ev1 ev7;have HN1 := hd_ hn1;have HN7 := hd_ hn7;clear hr1 hr7 hn1 hn7
  go_upto_if 45 with (fail)
  go_cut [6] from 45 to 46 (fun s6 wc => ∃ S b c m, s6 = .slice (some ⟨b, 0, none⟩) m c /\ m = (S.length + 7) / 8 /\ df.Stream l S /\ Fresh .u8 5 w.heap.size wc (.slice (some ⟨b, 0, none⟩) m c) m (bt.bytes false S) /\ wc = w7 /\ S.length <= 1073741824)
  case first =>
   by_cases hlt : n7 < n1
   ·have hlt' : (n7 : Int) < (n1 : Int) := by omega
    go_wp2_with fail
    go_meet
    exact ⟨S2, y7, z7, n7, rfl, HN7.out.symm, HST.out, HF7.out, rfl, HSL.out⟩
   ·have hlt' : ¬ (n7 : Int) < (n1 : Int) := by omega
    go_wp2_with fail
    go_meet
    exact ⟨df.sto l, y1, z1, n1, rfl, HN1.out.symm, .sto, HF1.out, rfl, HSTL.out⟩
  case rest =>
   obtain ⟨S, b, c, m, rfl, hm, hst, hfx, rfl, hsl⟩ := hcut;have HM := hd_ hm;have HSS := hd_ hst;have HFX := hd_ hfx;have HSX := hd_ hsl;clear hm hst hfx hsl HF1 HF7 HST HSL HN1 HN7;by_cases h2 : lv = 2
   ·have h2' : ((lv : Int) == 2) = true := by simp [h2]
    go_wp2_with fail
    refine (CW.out false wc).mono ?_;rintro e w8 ⟨g2, rfl, hw8, hb8⟩;have HW8 := hd_ hw8;have HB8 := hd_ hb8;have P2 := hd_ (put_any hw8 hb8.size 5 3 (by decide) (by decide) (by decide));clear hw8 hb8;go_wp2_with fail
    refine P2.out.mono ?_;rintro e w9 ⟨rfl, v9, hw9, hf9⟩;have hb9 := HB8.out.trans hf9.below;have HB9 := hd_ hb9;rw [List.nil_append] at hw9;have DY := hd_ (dynamic_any hw9 hb9.size pa pn pc ps (HP7.out.below hb9) HGD.out (by omega) (by rw [bt.bitsOf_length]; omega));clear hw9 hf9 hb9 P2 HW8 HB8;go_wp2_with fail
    refine DY.out.mono ?_;rintro e w10 ⟨L, D, C, l1, l2, l3, mL, mD, mC, c7, cp, cv, e2, rfl, v10, hw10, hf10⟩;have hb10 := HB9.out.trans hf10.below;have hsl2 : (bt.bitsOf false 5 3 ++ df.headBits C (L ++ D) ++ df.bodyBits L D ps).length <= 1073741824 := by
     have h1 := df.body_len mL.ok mD.ok HGD.out;have h3 := HP7.out.len;have h4 := df.head_len mC.ok (R := L ++ D) (by rw [List.length_append, l1, l2]);rw [List.length_append, List.length_append, bt.bitsOf_length];omega
    have hs0 : 0 < (bt.bitsOf false 5 3 ++ df.headBits C (L ++ D) ++ df.bodyBits L D ps).length := (by rw [List.length_append, List.length_append, bt.bitsOf_length]; omega);have HST2 : Hid (df.Stream l (bt.bitsOf false 5 3 ++ df.headBits C (L ++ D) ++ df.bodyBits L D ps)) := hd_ (.dyn ps L D C HFR.out HGD.out l1 l2 l3 mL mD mC c7 cp cv e2);have CB := hd_ (wbytes_any hw10 (Nat.le_trans hsl2 (by decide)) hs0);have HSL2 := hd_ hsl2;obtain ⟨S3, hS3⟩ : ∃ z, bt.bitsOf false 5 3 ++ df.headBits C (L ++ D) ++ df.bodyBits L D ps = z := ⟨_, rfl⟩;rw [hS3] at CB HST2 HSL2;have HFX10 := hd_ (fresh_below HFX.out hb10);have HB10 := hd_ (HB7.out.trans (hb10.mono HB7.out.size));clear l1 l2 l3 mL mD mC c7 cp cv e2 hw10 hf10 hb10 hsl2 hs0 hS3 DY HB9;go_wp2_with fail
    refine CB.out.mono ?_;rintro e w11 ⟨v11, rfl, hf11, hb11⟩;have HF11 := hd_ (fresh_mono hf11 HB10.out.size);have HFX11 := hd_ (fresh_below HFX10.out hb11);have HB11 := hd_ (HB10.out.trans (hb11.mono HB10.out.size));clear hf11 hb11 CB HFX10 HB10;obtain ⟨y3, z3, ev3, _, hr3⟩ := HF11.out;obtain ⟨n3, hn3⟩ : ∃ z, (S3.length + 7) / 8 = z := ⟨_, rfl⟩;rw [hn3] at ev3 HF11;subst ev3;have HN3 := hd_ hn3;clear hr3 hn3;by_cases hlt : n3 < m
    ·have hlt' : (n3 : Int) < (m : Int) := by omega
     go_wp2_with fail
     go_ret2
     exact ⟨S3, _, HST2.out, rfl, by rw [HN3.out]; exact HF11.out, HB11.out, HSL2.out⟩
    ·have hlt' : ¬ (n3 : Int) < (m : Int) := by omega
     go_wp2_with fail
     go_ret2
     exact ⟨S, _, HSS.out, rfl, by rw [<- HM.out]; exact HFX11.out, HB11.out, HSX.out⟩
   ·have h2' : ((lv : Int) == 2) = false := by simp; omega
    go_wp2_with fail
    go_ret2
    exact ⟨S, _, HSS.out, rfl, by rw [<- HM.out]; exact HFX.out, HB7.out, HSX.out⟩
namespace df
def be4 (s : Nat) : List Int := [(s / 16777216 : Nat), (s / 65536 % 256 : Nat), (s / 256 % 256 : Nat), (s % 256 : Nat)]
end df
def ZlibPost (l : List Int) (w : World) (e : Ending) (w' : World) : Prop :=
 ∃ S v, df.Stream l S /\ e = .returned (.tuple #[v, .int .i64 0]) /\ Fresh .u8 5 w.heap.size w' v (2 + (S.length + 7) / 8 + 4) ([120, 156] ++ bt.bytes false S ++ df.be4 (sm.adlOn 1 l)) /\ Below w.heap.size w w' /\ S.length <= 1073741824
theorem heap3b (w : World) (A B C : Obj) : (((w.alloc A).alloc B).alloc C).heap[w.heap.size]? = some A /\ (((w.alloc A).alloc B).alloc C).heap[w.heap.size + 1]? = some B /\ (((w.alloc A).alloc B).alloc C).heap[w.heap.size + 1 + 1]? = some C /\ Below w.heap.size w (((w.alloc A).alloc B).alloc C) := by
 refine ⟨?_, ?_, ?_, below3 w A B C⟩
 ·show (((w.heap.push A).push B).push C)[w.heap.size]? = some A
  rw [Array.getElem?_push, if_neg (by simp; omega), Array.getElem?_push, if_neg (by simp), Array.getElem?_push, if_pos rfl]
 ·show (((w.heap.push A).push B).push C)[w.heap.size + 1]? = some B
  rw [Array.getElem?_push, if_neg (by simp), Array.getElem?_push, if_pos (by simp)]
 ·show (((w.heap.push A).push B).push C)[w.heap.size + 1 + 1]? = some C
  rw [Array.getElem?_push, if_pos (by simp)]
theorem zlib_any (a : Option Addr) (n cap : Nat) (l : List Int) (lv : Nat) (w : World) (h : Sl .u8 w a n cap l) (hn : n <= 8388608) (hlv : lv <= 2) :
  Calls Tryz.prog 5 #[.slice a n cap, .int .i64 (lv : Nat)] w (ZlibPost l w) := by
 have CR := hd_ (raw_any a n cap l lv w h hn hlv);have CA := hd_ (fun w' (hb : Below w.heap.size w w') => adler_any a n cap l w' h.len h.fits h.most h.bytes (h.below hb).rd);have HS := hd_ h;have HBY := hd_ h.bytes;clear h;go_enter Tryz.func5, Tryz.ntmps5
 go_wp2_with fail
 refine CR.out.mono ?_;rintro e w1 ⟨S, v1, hst, rfl, hf1, hb1, hsl⟩;have HST := hd_ hst;have HF1 := hd_ hf1;have HB1 := hd_ hb1;have HSL := hd_ hsl;have CA1 := hd_ (CA.out w1 hb1);clear hst hf1 hb1 hsl CR CA;go_wp2_with fail
 refine CA1.out.mono ?_;rintro e w2 ⟨rfl, rfl⟩;have hs32 := sm.adlOn_lt 1 l;obtain ⟨s, hs⟩ : ∃ z, sm.adlOn 1 l = z := ⟨_, rfl⟩;rw [hs] at hs32;obtain ⟨y1, z1, rfl, _, hr1⟩ := HF1.out;obtain ⟨n1, hn1⟩ : ∃ z, (S.length + 7) / 8 = z := ⟨_, rfl⟩;rw [hn1] at hr1 HF1;have HN1 := hd_ hn1
 try rw [hn1]
 rw [hs];have HSE := hd_ hs;have HR1 := hd_ hr1;clear hr1 hn1 hs CA1;go_wp2_with fail
 obtain ⟨q0, q1, q2, q3⟩ := heap3b w1 (Obj.cells #[.int .u8 120, .int .u8 156] 5) (Obj.cells #[.int .u8 ((s : Int) / 16777216), .int .u8 ((s : Int) / 65536 % 256), .int .u8 ((s : Int) / 256 % 256), .int .u8 ((s : Int) % 256)] 5) (Obj.cells #[.slice (some ⟨w1.heap.size, 0, none⟩) 2 2, .slice (some ⟨y1, 0, none⟩) n1 z1, .slice (some ⟨w1.heap.size + 1, 0, none⟩) 4 4] 22);obtain ⟨w3, hw3⟩ : ∃ z, ((w1.alloc (Obj.cells #[.int .u8 120, .int .u8 156] 5)).alloc (Obj.cells #[.int .u8 ((s : Int) / 16777216), .int .u8 ((s : Int) / 65536 % 256), .int .u8 ((s : Int) / 256 % 256), .int .u8 ((s : Int) % 256)] 5)).alloc (Obj.cells #[.slice (some ⟨w1.heap.size, 0, none⟩) 2 2, .slice (some ⟨y1, 0, none⟩) n1 z1, .slice (some ⟨w1.heap.size + 1, 0, none⟩) 4 4] 22) = z := ⟨_, rfl⟩;rw [hw3] at q0 q1 q2 q3 ⊢;obtain ⟨g, hg⟩ : ∃ z, w1.heap.size = z := ⟨_, rfl⟩;have hsl : Sl .u8 w1 (some ⟨y1, 0, none⟩) n1 z1 (bt.bytes false S) := Fresh.sl HR1.out (wf_of_bytes (bt.bytes_range false S));have hsl3 := hsl.below q3;rw [hg] at q0 q1 q2 ⊢;have hlen := hsl.len;have hn1s : n1 <= 1073741824 := by have h1 := HN1.out; have h2 := HSL.out; omega
 obtain ⟨t0, ht0⟩ : ∃ z, s / 16777216 = z := ⟨_, rfl⟩;obtain ⟨t1, ht1⟩ : ∃ z, s / 65536 % 256 = z := ⟨_, rfl⟩;obtain ⟨t2, ht2⟩ : ∃ z, s / 256 % 256 = z := ⟨_, rfl⟩;obtain ⟨t3, ht3⟩ : ∃ z, s % 256 = z := ⟨_, rfl⟩;have e0 : (s : Int) / 16777216 = (t0 : Int) := by omega
 have e1 : (s : Int) / 65536 % 256 = (t1 : Int) := by omega
 have e2 : (s : Int) / 256 % 256 = (t2 : Int) := by omega
 have e3 : (s : Int) % 256 = (t3 : Int) := by omega
 rw [e0, e1, e2, e3] at q1;have key := bcat_any (g + 1 + 1) 0 3 [⟨some ⟨g, 0, none⟩, 2, 2, [.int .u8 120, .int .u8 156]⟩, ⟨some ⟨y1, 0, none⟩, n1, z1, (bt.bytes false S).map (Value.int .u8)⟩, ⟨some ⟨g + 1, 0, none⟩, 4, 4, [.int .u8 (t0 : Int), .int .u8 (t1 : Int), .int .u8 (t2 : Int), .int .u8 (t3 : Int)]⟩] w3 (by
  intro i s hs
  match i, hs with
  | 0, hs => cases hs; exact (cell_of_row w3 _ 0 _ _ (0, 0) q2).trans rfl
  | 1, hs => cases hs; exact (cell_of_row w3 _ 1 _ _ (0, 0) q2).trans rfl
  | 2, hs => cases hs; exact (cell_of_row w3 _ 2 _ _ (0, 0) q2).trans rfl
  | i + 3, hs => simp at hs) (show 3 <= 4096 by decide) (by
  intro s hs;simp only [List.mem_cons, List.not_mem_nil, or_false] at hs;rcases hs with rfl | rfl | rfl
  ·refine ⟨rfl, (fun u hu => by simp at hu; rcases hu with rfl | rfl <;> rfl), .inr ⟨_, rfl, fun j u hu => ?_⟩⟩
   rw [Addr.add_mid, Nat.zero_add, cell_of_row w3 g j _ _ (0, 0) q0, <- hu];simp
  ·exact src_sl hsl3
  ·refine ⟨rfl, (fun u hu => by simp at hu; rcases hu with rfl | rfl | rfl | rfl <;> rfl), .inr ⟨_, rfl, fun j u hu => ?_⟩⟩
   rw [Addr.add_mid, Nat.zero_add, cell_of_row w3 (g + 1) j _ _ (0, 0) q1, <- hu];simp) (by
  show ([2, n1, 4].sum : Nat) <= _;simp only [List.sum_cons, List.sum_nil];omega) (Nat.le_refl 3)
 have HB3 := hd_ (HB1.out.trans (q3.mono HB1.out.size));have KEY := hd_ key;have HT := hd_ (And.intro ht0 (And.intro ht1 (And.intro ht2 ht3)));clear q0 q1 q2 q3 hsl hsl3 key ht0 ht1 ht2 ht3 e0 e1 e2 e3 hw3;refine Calls.mono KEY.out ?_;rintro e w4 ⟨v4, rfl, ho4, hb4⟩;have HO4 := hd_ ho4;have HB4 := hd_ (HB3.out.trans (hb4.mono HB3.out.size));clear ho4 hb4 KEY;go_wp2_with fail
 go_ret2
 have ho := HO4.out;have e1 : catN [⟨some ⟨g, 0, none⟩, 2, 2, [.int .u8 120, .int .u8 156]⟩, ⟨some ⟨y1, 0, none⟩, n1, z1, (bt.bytes false S).map (Value.int .u8)⟩, ⟨some ⟨g + 1, 0, none⟩, 4, 4, [.int .u8 (t0 : Int), .int .u8 (t1 : Int), .int .u8 (t2 : Int), .int .u8 (t3 : Int)]⟩] = 2 + (S.length + 7) / 8 + 4 := by
  rw [HN1.out];show 2 + (n1 + (4 + 0)) = _;omega
 have e2 : catV [⟨some ⟨g, 0, none⟩, 2, 2, [.int .u8 120, .int .u8 156]⟩, ⟨some ⟨y1, 0, none⟩, n1, z1, (bt.bytes false S).map (Value.int .u8)⟩, ⟨some ⟨g + 1, 0, none⟩, 4, 4, [.int .u8 (t0 : Int), .int .u8 (t1 : Int), .int .u8 (t2 : Int), .int .u8 (t3 : Int)]⟩] = ([120, 156] ++ bt.bytes false S ++ df.be4 (sm.adlOn 1 l)).map (Value.int .u8) := by
  obtain ⟨r0, r1, r2, r3⟩ := HT.out;rw [HSE.out];unfold df.be4;rw [r0, r1, r2, r3, List.map_append, List.map_append, List.append_assoc];rfl
 rw [e1, e2] at ho;obtain ⟨b5, c5, e5, _⟩ := own_form ho (by omega);exact ⟨S, v4, HST.out, rfl, ⟨b5, c5, e5, by
  rcases ho.2 with ⟨_, h0⟩ | ⟨g', cap', cur, h', h1, _⟩
  ·omega
  ·rw [e5] at h'
   cases h';exact Nat.le_trans HB3.out.size h1, World.ownsRow.mono ho HB3.out.size⟩, HB4.out, HSL.out⟩
end Go.Proofs.YthpckmcgbmfmcaaGreatDoor
