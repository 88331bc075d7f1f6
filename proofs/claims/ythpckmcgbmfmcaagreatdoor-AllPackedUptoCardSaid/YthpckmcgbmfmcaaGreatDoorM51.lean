/- Texts of this claim, joined. -/
import Derived.Test.YthpckmcgbmfmcaaGreatDoorM50
import Derived.Test.YthpckmcgbmfmcaaGreatDoorM12
import Derived.Test.YthpckmcgbmfmcaaGreatDoorM48
import Derived.ProofKit
import Derived.OpenShut
import Derived.ShutString
import Derived.ChangeOld
import Derived.Below
import Derived.SizedLaws
import Derived.JoinedCond
set_option maxRecDepth 100000
set_option maxHeartbeats 12800000
namespace Go.Proofs.YthpckmcgbmfmcaaGreatDoor
open Go.RowKit Go.Sort
section
variable (tk : lz.K) (KT : ∀ w : World, Calls Tryz.prog 33 #[] w fun e w' => e = .returned (.agg #[.int .i64 (tk.clear : Nat), .int .i64 (tk.width : Nat), .bool true, .int .i64 (tk.early : Nat)]) /\ Below w.heap.size w w')
include KT in
theorem tiffUnpack_of (hk : tk.Good) (T : List (Nat × Nat)) (l : List Int) (hT : lz.Tells tk T l) (b off n cap : Nat) (w : World) (h : Sl .u8 w (some ⟨b, off, none⟩) n cap (bt.bytes true (lz.bitsOfAll true T))) (hn : n <= 137438953472) (M : Nat) (hM : l.length <= M) (hM2 : M <= 1099511627776) :
  Calls Tryz.prog 11 #[.slice (some ⟨b, off, none⟩) n cap, .int .i64 (M : Nat)] w fun e w' => ∃ w1, Below w.heap.size w w1 /\ lz.UnpPost l w1 e w' := by
 have HS := hd_ h;have HT := hd_ hT;have KT' := hd_ (KT w);have hmx : max (M : Int) 0 = (M : Int) := Int.max_eq_left (by omega);clear h hT KT;go_enter Tryz.func11, Tryz.ntmps11
 go_wp2_with fail
 refine KT'.out.mono ?_;rintro e w1 ⟨rfl, hb⟩;have KU := hd_ (unpack_any tk hk true T l HT.out b off n cap w1 (HS.out.below hb) hn M hM hM2);have HB := hd_ hb;clear hb KT';go_wp2_with fail
 refine KU.out.mono ?_;rintro e w2 ⟨v, rfl, ho, hb2⟩;have H1 := hd_ (And.intro ho hb2);clear ho hb2 KU;go_wp2_with fail
 go_ret2
 exact ⟨w1, HB.out, v, rfl, H1.out.1, H1.out.2⟩
end
theorem gifUnpack_any (z : Nat) (h2 : 2 <= z) (h8 : z <= 8) (T : List (Nat × Nat)) (l : List Int) (hT : lz.Tells (gifK z) T l) (b off n cap : Nat) (w : World) (h : Sl .u8 w (some ⟨b, off, none⟩) n cap (bt.bytes false (lz.bitsOfAll false T))) (hn : n <= 137438953472) (M : Nat) (hM : l.length <= M) (hM2 : M <= 1099511627776) :
  Calls Tryz.prog 10 #[.slice (some ⟨b, off, none⟩) n cap, .int .i64 (z : Nat), .int .i64 (M : Nat)] w (lz.UnpPost l w) := by
 have HS := hd_ h;have HT := hd_ hT;have CG := hd_ (gif_any z h2 h8 w);clear h hT;go_enter Tryz.func10, Tryz.ntmps10
 go_wp2_with fail
 refine CG.out.mono ?_;rintro e w2 ⟨rfl, hb2⟩;have HB2 := hd_ hb2;have CU := hd_ (unpack_any (gifK z) (gifK_good h2 h8) false T l HT.out b off n cap w2 (HS.out.below hb2) hn M hM hM2);clear hb2 CG;go_wp2_with fail
 refine CU.out.mono ?_;rintro e w3 ⟨v, rfl, ho, hb3⟩;have HO := hd_ ho;have HB3 := hd_ (HB2.out.trans (hb3.mono HB2.out.size));clear ho hb3 CU;go_wp2_with fail
 go_ret2
 exact ⟨v, rfl, ownsRow_base HO.out HB2.out.size, HB3.out⟩
theorem fits_bits (up : Bool) {T : List (Nat × Nat)} (h : lz.Fits T) : (lz.bitsOfAll up T).length <= 12 * T.length := by
 induction T with
 | nil => simp [lz.bitsOfAll]
 | cons q r ih =>
  obtain ⟨c, n⟩ := q;have h1 := ih (fun x hx => h x (List.mem_cons_of_mem _ hx));have h2 := (h (c, n) List.mem_cons_self).2;rw [lz.bitsOfAll_cons, List.length_append, bt.bitsOf_length, List.length_cons];dsimp only at h2;omega
theorem tells_bits (up : Bool) {k : lz.K} {T : List (Nat × Nat)} {l : List Int} (h : lz.Tells k T l) : (lz.bitsOfAll up T).length <= 12 * T.length := by
 obtain ⟨_, _, _, _, _, hf⟩ := h;exact fits_bits up hf
theorem pk.Pk.bytes {e d : List Int} (h : pk.Pk e d) (hd : sm.Bytes d) : sm.Bytes e := by
 induction h with
 | nil => exact hd
 | lit c h1 h2 _ ih =>
  intro z hz;rcases List.mem_cons.1 hz with rfl | hz
  ·omega
  ·rcases List.mem_append.1 hz with hz | hz
   ·exact hd z (List.mem_append.2 (.inl hz))
   ·exact ih (fun y hy => hd y (List.mem_append.2 (.inr hy))) z hz
 | run n x h1 h2 _ ih =>
  intro z hz;rcases List.mem_cons.1 hz with rfl | hz
  ·omega
  ·rcases List.mem_cons.1 hz with rfl | hz
   ·exact hd z (List.mem_append.2 (.inl (List.mem_replicate.2 ⟨by omega, rfl⟩)))
   ·exact ih (fun y hy => hd y (List.mem_append.2 (.inr hy))) z hz
theorem allPacked_walk (a : Option Addr) (n c : Nat) (l : List Int) (lev : Int) (W : World) (h : Sl .u8 W a n c l) (ht : lit.Tab W) (hk : n <= 1048576) :
  Calls Tryz.prog 3 #[.slice a n c, .int .i64 lev] W fun e W' => e = .returned (.bool true) /\ Below W.heap.size W W' := by
 have HS := hd_ h;have HBY := hd_ h.bytes;have HLN := hd_ h.len;have CL := hd_ (lit_any W ht);clear h ht;go_enter Tryz.func3, Tryz.ntmps3
 go_wp2_with fail
 refine CL.out.mono ?_;rintro e w1 ⟨rfl, hb1⟩;have HB1 := hd_ hb1;clear hb1 CL;go_upto_region 4 with (fail)
 obtain ⟨lv, hlv, hlv2⟩ : ∃ lv : Nat, wrap64 ((IntKind.u64.wrap lev).tmod 3) = (lv : Int) /\ lv <= 2 := by
  have h0 : 0 <= IntKind.u64.wrap lev := by rw [IntKind.wrap]; simp [IntKind.bits, IntKind.signed]; omega
  have h1 : (IntKind.u64.wrap lev).tmod 3 = (IntKind.u64.wrap lev) % 3 := Int.tmod_eq_emod_of_nonneg h0;have h2 := Int.emod_nonneg (IntKind.u64.wrap lev) (show (3 : Int) ≠ 0 by decide);have h3 := Int.emod_lt_of_pos (IntKind.u64.wrap lev) (show (0 : Int) < 3 by decide);refine ⟨((IntKind.u64.wrap lev) % 3).toNat, ?_, by omega⟩;rw [h1];rw [IntWalk.wrap64_in _ (by omega)];omega
 rw [hlv];clear hlv;have hn8 : n <= 140737488355328 := by omega
 have HNB := hd_ hk;have CB := hd_ (bytes8_any a n c l w1 (HS.out.below HB1.out) hn8);go_wp2_with fail
 refine CB.out.mono ?_;rintro e w2 ⟨g2, c2, cur2, rfl, hs2, hc2, hb2⟩;have CZ := hd_ (zlib_any _ n c2 l lv w2 hs2 (by omega) hlv2);have HB2 := hd_ (HB1.out.trans (hb2.mono HB1.out.size));clear hs2 hc2 hb2 CB HB1 hlv2;go_wp2_with fail
 refine CZ.out.mono ?_;rintro e w3 ⟨S, v, hst, rfl, hf, hb3, hSl⟩;obtain ⟨gx, cx, rfl, _, hrow⟩ := hf;obtain ⟨nx, hnx⟩ : ∃ z, 2 + (S.length + 7) / 8 + 4 = z := ⟨_, rfl⟩;rw [hnx] at hrow ⊢;have hbyX : sm.Bytes ([120, 156] ++ bt.bytes false S ++ df.be4 (sm.adlOn 1 l)) := by
  intro z hz;rcases List.mem_append.1 hz with hz | hz
  ·rcases List.mem_append.1 hz with hz | hz
   ·simp only [List.mem_cons, List.not_mem_nil, or_false] at hz
    rcases hz with rfl | rfl <;> omega
   ·exact bt.bytes_range false S z hz
  ·exact df.be4_bytes (sm.adlOn_lt 1 l) z hz
 have hsx : Sl .u8 w3 (some ⟨gx, 0, none⟩) nx cx ([120, 156] ++ bt.bytes false S ++ df.be4 (sm.adlOn 1 l)) := Fresh.sl hrow (wf_of_bytes hbyX);have HSX := hd_ hsx;have HGX := hd_ ((World.ownsRow.lt hrow gx rfl).2);have HST := hd_ hst;have HB3 := hd_ (HB2.out.trans (hb3.mono HB2.out.size));have HNX : Hid (6 <= nx /\ nx <= 134217736) := hd_ (by omega);clear hst hrow hbyX hsx hb3 hSl hnx CZ HB2;have x1 : ¬ ((nx : Int) < 2) := by have := HNX.out; omega
 have x2 : decide ((nx : Int) < 2) = false := by have := HNX.out; simp; omega
 have hx8 : nx <= 140737488355328 := by have := HNX.out; omega
 have CB := hd_ (bytes8_any _ nx cx _ w3 HSX.out hx8);go_wp2_with fail
 refine CB.out.mono ?_;rintro e w4 ⟨g4, c4, cur4, rfl, hs4, hc4, hb4⟩;have CZ := hd_ (izlib_any _ _ nx c4 n S l w4 hs4 HST.out HBY.out (by have := HLN.out; omega) (by omega) (by have := HNX.out; omega));have HB4 := hd_ (HB3.out.trans (hb4.mono HB3.out.size));have HSX4 := hd_ (HSX.out.below hb4);have HGX4 := hd_ (Nat.lt_of_lt_of_le HGX.out hb4.size);clear hs4 hc4 hb4 CB HB3 HSX HGX x1 x2;go_wp2_with fail
 refine CZ.out.mono ?_;rintro e w5 ⟨v5, rfl, ho5, hb5⟩;obtain ⟨ay, cy, rfl, hsy⟩ := own_sl8 ho5 HBY.out;have HSY := hd_ hsy;have HB5 := hd_ (HB4.out.trans (hb5.mono HB4.out.size));have HSX5 := hd_ (HSX4.out.below hb5);have HGX5 := hd_ (Nat.lt_of_lt_of_le HGX4.out hb5.size);clear ho5 hsy hb5 CZ HB4 HSX4 HGX4;rw [HLN.out] at HSY ⊢;obtain ⟨E, hE⟩ := df.withTail_pre S (df.be4 (sm.adlOn 1 l));have hraw : Sl .u8 w5 (some ⟨gx, 2, none⟩) (nx - 2) (cx - 2) (bt.bytes false (df.withTail S (df.be4 (sm.adlOn 1 l)))) := by
  have h2 := HSX5.out.drop (m := 2) (by have := HNX.out; omega);have hd : ([120, 156] ++ bt.bytes false S ++ df.be4 (sm.adlOn 1 l)).drop 2 = bt.bytes false (df.withTail S (df.be4 (sm.adlOn 1 l))) := by
   rw [df.withTail_bytes S (df.be4_bytes (sm.adlOn_lt 1 l)), List.append_assoc];rfl
  rw [hd, Nat.zero_add] at h2;exact h2
 have CZ := hd_ (sraw_any gx 2 (nx - 2) (cx - 2) n (df.withTail S (df.be4 (sm.adlOn 1 l))) S E l w5 hraw hE HST.out HBY.out (by have := HLN.out; omega) (by omega) (by have := HNX.out; omega) HGX5.out);obtain ⟨nr, hnr⟩ : ∃ z, nx - 2 = z := ⟨_, rfl⟩;obtain ⟨cr, hcr⟩ : ∃ z, cx - 2 = z := ⟨_, rfl⟩;rw [hnr, hcr] at CZ;have hcf := HSX5.out.fits;have r1 : (2 : Int) <= (nx : Int) := by have := HNX.out; omega
 have r2 : (2 : Int) <= (cx : Int) := by have := HNX.out; omega
 have r3 : ¬ (cx = 2) := by have := HNX.out; omega
 have r4 : ¬ (2 = cx) := by have := HNX.out; omega
 clear hraw hE hcf;go_wp2_with fail
 refine CZ.out.mono ?_;rintro e w6 ⟨v6, rfl, ho6, hb6⟩;obtain ⟨az, cz, rfl, hsz⟩ := own_sl8 ho6 HBY.out;have HSZ := hd_ hsz;have HB6 := hd_ (HB5.out.trans (hb6.mono HB5.out.size));have HSY6 := hd_ (HSY.out.below hb6);clear ho6 hsz hb6 CZ HB5 HSX5 HGX5 HSY HST r1 r2 r3 r4 hnr hcr;rw [HLN.out] at HSZ ⊢;have CB := hd_ (bytes8_any a n c l w6 (HS.out.below HB6.out) hn8);go_wp2_with fail
 refine CB.out.mono ?_;rintro e w7 ⟨g7, c7, cur7, rfl, hs7, hc7, hb7⟩;have CZ := hd_ (gifPack_any 8 (by decide) (by decide) _ n c7 l w7 hs7 (fun x hx => (HBY.out x hx).2) (by omega));have HB7 := hd_ (HB6.out.trans (hb7.mono HB6.out.size));have HSY7 := hd_ (HSY6.out.below hb7);have HSZ7 := hd_ (HSZ.out.below hb7);clear hs7 hc7 hb7 CB HB6 HSY6 HSZ;go_wp2_with fail
 refine CZ.out.mono ?_;rintro e w8 ⟨T8, v8, hT8, hTl8, rfl, hf8, hb8⟩;obtain ⟨gp, cp, rfl, _, hrow8⟩ := hf8;have hsp : Sl .u8 w8 (some ⟨gp, 0, none⟩) (((lz.bitsOfAll false T8).length + 7) / 8) cp (bt.bytes false (lz.bitsOfAll false T8)) := Fresh.sl hrow8 (wf_of_bytes (bt.bytes_range false _));have hbl8 := tells_bits false hT8;obtain ⟨np, hnp⟩ : ∃ z, ((lz.bitsOfAll false T8).length + 7) / 8 = z := ⟨_, rfl⟩;rw [hnp] at hsp ⊢;have CU := hd_ (gifUnpack_any 8 (by decide) (by decide) T8 l hT8 gp 0 np cp w8 hsp (by have := HLN.out; omega) n (by have := HLN.out; omega) (by omega));have HB8 := hd_ (HB7.out.trans (hb8.mono HB7.out.size));have HSY8 := hd_ (HSY7.out.below hb8);have HSZ8 := hd_ (HSZ7.out.below hb8);clear hT8 hTl8 hb8 hrow8 hsp hbl8 hnp CZ HB7 HSY7 HSZ7;go_wp2_with fail
 refine CU.out.mono ?_;rintro e w9 ⟨v9, rfl, ho9, hb9⟩;obtain ⟨aq, cq, rfl, hsq⟩ := own_sl8 ho9 HBY.out;have HSQ := hd_ hsq;have HB9 := hd_ (HB8.out.trans (hb9.mono HB8.out.size));have HSY9 := hd_ (HSY8.out.below hb9);have HSZ9 := hd_ (HSZ8.out.below hb9);clear ho9 hsq hb9 CU HB8 HSY8 HSZ8;rw [HLN.out] at HSQ ⊢;have CB := hd_ (bytes8_any a n c l w9 (HS.out.below HB9.out) hn8);go_wp2_with fail
 refine CB.out.mono ?_;rintro e w10 ⟨g10, c10, cur10, rfl, hs10, hc10, hb10⟩;have CZ := hd_ (tiffPack_any _ n c10 l w10 hs10 (by omega));have HB10 := hd_ (HB9.out.trans (hb10.mono HB9.out.size));have HSY10 := hd_ (HSY9.out.below hb10);have HSZ10 := hd_ (HSZ9.out.below hb10);have HSQ10 := hd_ (HSQ.out.below hb10);clear hs10 hc10 hb10 CB HB9 HSY9 HSZ9 HSQ;go_wp2_with fail
 refine CZ.out.mono ?_;rintro e w11 ⟨w11', hb11, T11, hT11, hTl11, v11, rfl, hf11, hb11'⟩;obtain ⟨gt, ct, rfl, _, hrow11⟩ := hf11;have hst11 : Sl .u8 w11 (some ⟨gt, 0, none⟩) (((lz.bitsOfAll true T11).length + 7) / 8) ct (bt.bytes true (lz.bitsOfAll true T11)) := Fresh.sl hrow11 (wf_of_bytes (bt.bytes_range true _));have hbl11 := tells_bits true hT11;obtain ⟨nt, hnt⟩ : ∃ z, ((lz.bitsOfAll true T11).length + 7) / 8 = z := ⟨_, rfl⟩;rw [hnt] at hst11 ⊢;have CU := hd_ (tiffUnpack_of tiffK (fun w => tiff_any w) tiffK_good T11 l hT11 gt 0 nt ct w11 hst11 (by have := HLN.out; omega) n (by have := HLN.out; omega) (by omega));have hbt := hb11.trans (hb11'.mono hb11.size);have HB11 := hd_ (HB10.out.trans (hbt.mono HB10.out.size));have HSY11 := hd_ (HSY10.out.below hbt);have HSZ11 := hd_ (HSZ10.out.below hbt);have HSQ11 := hd_ (HSQ10.out.below hbt);clear hT11 hTl11 hb11 hb11' hbt hrow11 hst11 hbl11 hnt CZ HB10 HSY10 HSZ10 HSQ10;go_wp2_with fail
 refine CU.out.mono ?_;rintro e w12 ⟨w12', hb12, v12, rfl, ho12, hb12'⟩;obtain ⟨au, cu, rfl, hsu⟩ := own_sl8 ho12 HBY.out;have HSU := hd_ hsu;have hbu := hb12.trans (hb12'.mono hb12.size);have HB12 := hd_ (HB11.out.trans (hbu.mono HB11.out.size));have HSY12 := hd_ (HSY11.out.below hbu);have HSZ12 := hd_ (HSZ11.out.below hbu);have HSQ12 := hd_ (HSQ11.out.below hbu);clear ho12 hsu hb12 hb12' hbu CU HB11 HSY11 HSZ11 HSQ11;rw [HLN.out] at HSU ⊢;have CB := hd_ (bytes8_any a n c l w12 (HS.out.below HB12.out) hn8);go_wp2_with fail
 refine CB.out.mono ?_;rintro e w13 ⟨g13, c13, cur13, rfl, hs13, hc13, hb13⟩;have CZ := hd_ (pkPack_any g13 n c13 l cur13 w13 hs13 hc13 (by omega));have HB13 := hd_ (HB12.out.trans (hb13.mono HB12.out.size));have HSY13 := hd_ (HSY12.out.below hb13);have HSZ13 := hd_ (HSZ12.out.below hb13);have HSQ13 := hd_ (HSQ12.out.below hb13);have HSU13 := hd_ (HSU.out.below hb13);clear hs13 hc13 hb13 CB HB12 HSY12 HSZ12 HSQ12 HSU;go_wp2_with fail
 refine CZ.out.mono ?_;rintro e w14 ⟨v14, o14, rfl, hpk, ho14, hb14⟩;obtain ⟨av, cv, rfl, hsv⟩ := own_sl8 ho14 (hpk.bytes HBY.out);have hav : ∀ b o', av = some ⟨b, o', none⟩ -> b < w14.heap.size := fun b o' e => (World.ownsRow.lt ho14 b (by rw [e]; rfl)).2
 have CU := hd_ (pkUnpack_any av o14.length cv n o14 l w14 hsv hav hpk (by have := HLN.out; omega) (by omega));have HB14 := hd_ (HB13.out.trans (hb14.mono HB13.out.size));have HSY14 := hd_ (HSY13.out.below hb14);have HSZ14 := hd_ (HSZ13.out.below hb14);have HSQ14 := hd_ (HSQ13.out.below hb14);have HSU14 := hd_ (HSU13.out.below hb14);obtain ⟨nv, hnv⟩ : ∃ z, o14.length = z := ⟨_, rfl⟩;rw [hnv] at CU ⊢;clear hpk ho14 hb14 hsv hav hnv CZ HB13 HSY13 HSZ13 HSQ13 HSU13;go_wp2_with fail
 refine CU.out.mono ?_;rintro e w15 ⟨v15, rfl, ho15, hb15⟩;obtain ⟨ar, cr', rfl, hsr⟩ := own_sl8 ho15 HBY.out;have HSR := hd_ hsr;have HB15 := hd_ (HB14.out.trans (hb15.mono HB14.out.size));have HSY15 := hd_ (HSY14.out.below hb15);have HSZ15 := hd_ (HSZ14.out.below hb15);have HSQ15 := hd_ (HSQ14.out.below hb15);have HSU15 := hd_ (HSU14.out.below hb15);clear ho15 hsr hb15 CU HB14 HSY14 HSZ14 HSQ14 HSU14;rw [HLN.out] at HSR ⊢;have C1 := hd_ (same8_any _ _ n n cy c l l w15 HSY15.out (HS.out.below HB15.out));rw [decide_eq_true rfl] at C1;go_wp2_with fail
 refine C1.out.mono ?_;rintro e w16 ⟨rfl, hb16⟩;have HB16 := hd_ (HB15.out.trans (hb16.mono HB15.out.size));have C2 := hd_ (same8_any _ _ n n cz c l l w16 (HSZ15.out.below hb16) (HS.out.below HB16.out));rw [decide_eq_true rfl] at C2;have HSQ16 := hd_ (HSQ15.out.below hb16);have HSU16 := hd_ (HSU15.out.below hb16);have HSR16 := hd_ (HSR.out.below hb16);clear hb16 C1 HB15 HSY15 HSZ15 HSQ15 HSU15 HSR;go_wp2_with fail
 refine C2.out.mono ?_;rintro e w17 ⟨rfl, hb17⟩;have HB17 := hd_ (HB16.out.trans (hb17.mono HB16.out.size));have C3 := hd_ (same8_any _ _ n n cq c l l w17 (HSQ16.out.below hb17) (HS.out.below HB17.out));rw [decide_eq_true rfl] at C3;have HSU17 := hd_ (HSU16.out.below hb17);have HSR17 := hd_ (HSR16.out.below hb17);clear hb17 C2 HB16 HSQ16 HSU16 HSR16;go_wp2_with fail
 refine C3.out.mono ?_;rintro e w18 ⟨rfl, hb18⟩;have HB18 := hd_ (HB17.out.trans (hb18.mono HB17.out.size));have C4 := hd_ (same8_any _ _ n n cu c l l w18 (HSU17.out.below hb18) (HS.out.below HB18.out));rw [decide_eq_true rfl] at C4;have HSR18 := hd_ (HSR17.out.below hb18);clear hb18 C3 HB17 HSU17 HSR17;go_wp2_with fail
 refine C4.out.mono ?_;rintro e w19 ⟨rfl, hb19⟩;have HB19 := hd_ (HB18.out.trans (hb19.mono HB18.out.size));have C5 := hd_ (same8_any _ _ n n cr' c l l w19 (HSR18.out.below hb19) (HS.out.below HB19.out));rw [decide_eq_true rfl] at C5;clear hb19 C4 HB18 HSR18;go_wp2_with fail
 refine C5.out.mono ?_;rintro e w20 ⟨rfl, hb20⟩;have HB20 := hd_ (HB19.out.trans (hb20.mono HB19.out.size));clear hb20 C5 HB19;go_wp2_with fail
 go_ret
 exact ⟨rfl, HB20.out⟩
end Go.Proofs.YthpckmcgbmfmcaaGreatDoor
namespace Go.Proofs.YthpckmcgbmfmcaaGreatDoor
open Go.ChangeShapes Go.WideShapes Go.ChangeAt Go.RowKit
theorem ownKnob_none : ownKnob Tryz.prog.godebug = none := by kernel_rfl
theorem laidOut_true : laidOutB Tryz.prog = true := by kernel_rfl
theorem open_sl {H : Type} {enc : TypeId × Value -> H} {W : World} {t e : TypeId} {k : IntKind} {a : Option Addr} {n cap : Nat} {d : DataW H} {p : List MemPlace}
  (ht : Tryz.prog.underlying t = some (.slice e)) (he : Tryz.prog.underlying e = some (.int k)) (hc : Tryz.prog.cellsOf e = 1)
  (h : DataW.Trod enc Tryz.prog W 0 (fun _ => true) true t (Value.slice a n cap) d p) :
  ∃ l, Sl k W a n cap l /\ (d = .nil /\ cap = 0 \/ ∃ es sp, d = .slice es sp /\ es.length + sp.length = cap /\ es = lits k l) := by
 obtain ⟨fuel, hf⟩ := h;rcases open_ints ht he hc hf with ⟨hcs, hx⟩ | ⟨x, l, c, zs, hcs, _, hl, hm, hz, hx, hcell, hwz⟩
 ·simp [Value.cells] at hcs
  obtain ⟨rfl, rfl, rfl⟩ := hcs;simp only [Prod.mk.injEq] at hx;exact ⟨[], Sl.nil, .inl ⟨hx.1, rfl⟩⟩
 ·simp [Value.cells] at hcs
  obtain ⟨rfl, rfl, rfl⟩ := hcs;simp only [Prod.mk.injEq] at hx;simp only [if_true] at hz;refine ⟨zs.take n, ⟨by rw [List.length_take]; omega, hl, hm, (fun e => by cases e), (fun x hx => hwz x (List.mem_of_mem_take hx)), ?_⟩, .inr ⟨_, _, hx.1, ?_, rfl⟩⟩
  ·by_cases h0 : n = 0
   ·subst h0; exact .inl (by simp)
   ·obtain ⟨b, off, spot⟩ := x
    have hc0 := hcell 0 (by omega);have hspot : spot = none := (by simpa [Addr.add] using World.cell?_spot hc0);subst hspot;refine .inr ⟨b, off, rfl, fun i hi => ?_⟩;rw [List.length_take] at hi;have := hcell i (by omega);have e2 : (⟨b, off, none⟩ : Addr).add i = ⟨b, off + i, none⟩ := (by unfold Addr.add; split <;> simp_all);rw [e2] at this;rw [this];congr 2
    simp only [List.getD_eq_getElem?_getD, List.getElem?_take];rw [if_pos (by omega)]
  ·simp only [lits, List.length_map, List.length_take, List.length_drop]; omega
end Go.Proofs.YthpckmcgbmfmcaaGreatDoor
namespace Go.Proofs.YthpckmcgbmfmcaaGreatDoor.bulks
theorem pos {H : Type} (d : DataW H) : 1 <= Rows.uptoBulk d := by
 cases d <;> try simp [Rows.uptoBulk]
 rename_i l
 cases l <;> simp [Rows.uptoBulk]
theorem count {H : Type} : ∀ l : List (DataW H), l.length <= Rows.uptoBulkAll l
 | [] => by simp [Rows.uptoBulkAll]
 | d :: r => by
  have h1 := pos d;have h2 := count r;simp only [Rows.uptoBulkAll, List.length_cons];omega
theorem slice_le {H : Type} (es sp : List (DataW H)) : es.length + sp.length + 1 <= Rows.uptoBulk (.slice es sp) := by
 have h1 := count es;have h2 := count sp;simp only [Rows.uptoBulk];omega
theorem part_le {H : Type} {d : DataW H} : ∀ {l : List (DataW H)}, d ∈ l -> Rows.uptoBulk d <= Rows.uptoBulkAll l
 | x :: r, h => by
  simp only [Rows.uptoBulkAll];rcases List.mem_cons.1 h with rfl | h
  ·omega
  ·have := part_le h
   omega
end Go.Proofs.YthpckmcgbmfmcaaGreatDoor.bulks
