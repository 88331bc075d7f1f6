/- Texts of this claim, joined. -/
import Derived.Test.YthpckmcgbmfmcaaGreatDoorM44
set_option maxRecDepth 100000
set_option maxHeartbeats 12800000
namespace Go.Proofs.YthpckmcgbmfmcaaGreatDoor
open Go.RowKit Go.Sort Go.Shelf
attribute [local go_sem] Oper.semAt_some
namespace df
theorem fixL_pos (i : Nat) (h : i < 288) : 1 <= fixL.getD i 0 := by
 rw [fixL_get i h];split
 ·decide
 ·split <;> decide
theorem fix_covers {p : Piece} (h : Good p) : Covers fixL fixD p := by
 unfold Covers;split
 ·exact fixL_pos _ (by have := h.1; omega)
 ·rename_i h0
  obtain ⟨h1, h2, h3, h4⟩ := h.2 h0;have := lenS_range h2;have := disS_range h4 h3;exact ⟨fixL_pos _ (by omega), by rw [fixD_get _ (by omega)]; decide⟩
def Todo (l : List Int) (i P : Nat) (T : List Bool) : Prop :=
 (T = sto (l.drop i) /\ P % 8 = 0 /\ i <= l.length) \/ (i = 0 /\ ∃ ps, From l 0 ps l.length /\ (∀ p ∈ ps, Good p) /\ T = bt.bitsOf false 3 3 ++ bodyBits fixL fixD ps) \/
  (i = 0 /\ ∃ ps L D C, From l 0 ps l.length /\ L.length = 286 /\ D.length = 30 /\ C.length = 19 /\ Made L /\ Made D /\ Made C /\ (∀ x ∈ C, x <= 7) /\ (∀ x ∈ L ++ D, 1 <= C.getD x 0) /\ (∀ p ∈ ps, Covers L D p) /\ 1 <= L.getD 256 0 /\ T = bt.bitsOf false 5 3 ++ (headBits C (L ++ D) ++ bodyBits L D ps))
theorem Stream.todo {l : List Int} {S : List Bool} (h : Stream l S) : Todo l 0 0 S := by
 cases h with
 | sto => exact .inl ⟨rfl, rfl, Nat.zero_le _⟩
 | fix ps h1 h2 => exact .inr (.inl ⟨rfl, ps, h1, h2, rfl⟩)
 | dyn ps L D C h1 h2 h3 h4 h5 h6 h7 h8 h9 h10 h11 h12 => exact .inr (.inr ⟨rfl, ps, L, D, C, h1, h3, h4, h5, h6, h7, h8, h9, h10, h11, h12, by rw [List.append_assoc]⟩)
theorem sto_next (l : List Int) (i : Nat) (hi : i <= l.length) : ∃ (q : Nat) (ch : List Int) (R : List Bool), sto (l.drop i) = blk q ch ++ R /\ ch.length <= 65535 /\ ch = (l.drop i).take ch.length /\ i + ch.length <= l.length /\ ((q = 1 /\ R = [] /\ i + ch.length = l.length) \/ (q = 0 /\ R = sto (l.drop (i + ch.length)) /\ 1 <= ch.length)) := by
 by_cases h : (l.drop i).length <= 65535
 ·refine ⟨1, l.drop i, [], by rw [sto_last h, List.append_nil], h, (List.take_of_length_le (Nat.le_refl _)).symm, ?_, .inl ⟨rfl, rfl, ?_⟩⟩ <;> rw [List.length_drop] <;> omega
 ·have hl : ((l.drop i).take 65535).length = 65535 := by rw [List.length_take]; omega
  refine ⟨0, (l.drop i).take 65535, sto ((l.drop i).drop 65535), sto_more h, by rw [hl]; exact Nat.le_refl _, by rw [hl], ?_, .inr ⟨rfl, ?_, by rw [hl]; decide⟩⟩
  ·rw [hl]
   rw [List.length_drop] at h;omega
  ·rw [hl, List.drop_drop]
end df
def RawG (w : World) (rb : Nat) (v : Value) (b : Bool) (u : World) : Prop := ∃ u0, Below w.heap.size w u0 /\ u = if b then u0.setCell ⟨rb, 0, none⟩ v else u0
def IRawPost (S : List Bool) (l : List Int) (w : World) (e : Ending) (w' : World) : Prop :=
 ∃ v, e = .returned (.tuple #[v, .int .i64 ((S.length + 7) / 8 : Nat), .int .i64 0]) /\ w'.ownsRow w.heap.size 5 1 v l.length (l.map (Value.int .u8)) /\ Below w.heap.size w w'
theorem iraw_any (bb bo n cap most : Nat) (L S E : List Bool) (l : List Int) (w : World) (h : Sl .u8 w (some ⟨bb, bo, none⟩) n cap (bt.bytes false L)) (hL : L = S ++ E) (hst : df.Stream l S) (hby : sm.Bytes l) (hl : l.length <= most) (hm : most <= 17179869184) (hn : n <= 34359738368) :
  Calls Tryz.prog 22 #[.slice (some ⟨bb, bo, none⟩) n cap, .int .i64 (most : Nat)] w (IRawPost S l w) := by
 have CN := hd_ (fun w' (hb : Below w.heap.size w w') => newReader_any false bb bo n cap _ w' (h.below hb) (by omega));have hmf : ∀ (fn : Fn) (first cap : Array Value) (w : World), (Instr.makeFunc fn first cap).run Tryz.prog w = .ok (.func fn first cap) w := fun _ _ _ _ => rfl
 have HN : Hid (n = (L.length + 7) / 8) := hd_ (by have := h.len; rw [bt.bytes_length] at this; exact this.symm);have HLL := hd_ hL;have HTD := hd_ hst.todo;have HBY := hd_ hby;have hmx : max (most : Int) 0 = (most : Int) := by omega
 clear h hL hst hby
 go_enter_defers Tryz.func22, Tryz.ntmps22
 go_upto_region 1 with (fail)
 obtain ⟨w0, hw0, k1, k2, k3, hs0, hB0⟩ := alloc3 w (Obj.cells #[Value.slice none 0 0] 22) (Obj.cells #[Value.int IntKind.i64 0] 3) (Obj.cells #[Value.int IntKind.i64 0] 25);rw [<- hw0];clear hw0;obtain ⟨rb, hrb⟩ : ∃ x, w.heap.size = x := ⟨_, rfl⟩;have HRB := hd_ hrb;have HB0 := hd_ hB0;have CN0 := hd_ (CN.out w0 hB0);rw [hrb] at k1 k2 k3 hs0 ⊢;obtain ⟨rb1, hrb1⟩ : ∃ x, rb + 1 = x := ⟨_, rfl⟩;obtain ⟨rb2, hrb2⟩ : ∃ x, rb1 + 1 = x := ⟨_, rfl⟩;rw [hrb1] at k2;rw [hrb1, hrb2] at k3;rw [hrb1, hrb2];have HRBS : Hid (rb1 = rb + 1 /\ rb2 = rb + 2 /\ w0.heap.size = rb + 3) := hd_ (by omega);have K1 := hd_ k1;have K2 := hd_ k2;have K3 := hd_ k3;clear k1 k2 k3 hs0 hB0 hrb hrb1 hrb2 CN;go_wp2_with fail
 refine CN0.out.mono ?_;rintro e w1 ⟨r, sb, c, rfl, hrd, hr0, hsb0, hb1⟩;have hba : Below w1.heap.size w1 (w1.alloc (.cells #[.pointer (some ⟨r, 0, none⟩), .slice none 0 0, .int .i64 (most : Nat)] 121)) := (Below.refl _ _).alloc (Nat.le_refl _) _;have hna := heap_alloc_new w1 (.cells #[.pointer (some ⟨r, 0, none⟩), .slice none 0 0, .int .i64 (most : Nat)] 121 (0, 0));obtain ⟨w2, hw2⟩ : ∃ z, w1.alloc (.cells #[.pointer (some ⟨r, 0, none⟩), .slice none 0 0, .int .i64 (most : Nat)] 121) = z := ⟨_, rfl⟩;obtain ⟨x, hx⟩ : ∃ z, w1.heap.size = z := ⟨_, rfl⟩;have hsbl : sb < w1.heap.size := Nat.lt_trans hrd.apart (block_lt hrd.head);have hir : Ir w0.heap.size w1.heap.size w2 x r sb n c (bt.bytes false L) 0 most (l.take 0) (.slice none 0 0) := ⟨by rw [<- hw2, <- hx]; exact hna, hrd.below (by rw [<- hw2]; exact hba), World.ownsRow_nil _ _ _ _, by omega, hr0, hb1.size, hsbl, by rw [<- hw2]; exact hba.size, Nat.zero_le _, hm⟩;have HIR := hd_ hir;have HB2 : Hid (Below w0.heap.size w0 w2) := hd_ (hb1.trans ((by rw [<- hw2]; exact hba.mono hb1.size)));have HSB : Hid (w0.heap.size <= sb) := hd_ hsb0;have HRR : Hid (w0.heap.size <= r) := hd_ hr0;have hwb1 : w.heap.size <= w1.heap.size := Nat.le_trans HB0.out.size hb1.size;clear hrd hr0 hsb0 hb1 hba hna hsbl hir CN0;go_wp2_with (rw [hw2, hx])
 clear hw2 hx hmf hmx;obtain ⟨b0, hb0⟩ : ∃ z, w0.heap.size = z := ⟨_, rfl⟩;obtain ⟨b1, hb1⟩ : ∃ z, w1.heap.size = z := ⟨_, rfl⟩;rw [hb0, hb1] at HIR;rw [hb0] at HB2 HRBS HSB HRR;have HBB : Hid (w.heap.size <= b1) := hd_ (by rw [<- hb1]; exact hwb1);have HB0E := hd_ hb0;clear hb0 hb1;go_loopg [8] (l.length + 1) (fun gk s8 wr => ∃ (last : Bool) (i P : Nat) (v' : Value), s8 = .bool last /\ gk = (if last then 0 else l.length - i + 1) /\ i <= l.length /\ Ir b0 b1 wr x r sb n c (bt.bytes false L) P most (l.take i) v' /\ Below b0 w2 wr /\
  (last = true -> i = l.length /\ P = S.length) /\ (last = false -> ∃ A T, L = A ++ (T ++ E) /\ A.length = P /\ P + T.length = S.length /\ df.Todo l i P T))
 case atStart => exact ⟨false, 0, 0, _, rfl, rfl, Nat.zero_le _, HIR.out, Below.refl _ _, (fun e => by cases e), fun _ => ⟨[], S, HLL.out, rfl, by rw [Nat.zero_add], HTD.out⟩⟩
 case round =>
  obtain ⟨last, i, P, v', rfl, hg, hi, hir, hbw, hend, htodo⟩ := hrel;have Hg := hd_ hg;have HJ := hd_ hir;have HBW := hd_ hbw;clear hg hir hbw HIR;cases last
  ·obtain ⟨A, T, hLT, hAP, hPT, htd⟩ := htodo rfl
   have HPT := hd_ hPT;have Hg : Hid (gk = l.length - i + 1) := Hg;clear hend htodo;rcases htd with ⟨hT, hP8, _⟩ | ⟨hi0, ps, hfr, hgd, hT⟩ | ⟨hi0, ps, Lt, Dt, C, hfr, l1, l2, l3, mL, mD, mC, c7, cp, cv, e2, hT⟩
   ·obtain ⟨q, ch, R, hsn, hcl, hch, hic, hq⟩ := df.sto_next l i hi
    have hLB0 : L = A ++ (df.blk q ch ++ (R ++ E)) := (by rw [hLT, hT, hsn, List.append_assoc]);obtain ⟨k, hk⟩ : ∃ k, P = 8 * k := ⟨P / 8, by omega⟩;have hbc : sm.Bytes ch := by
     rw [hch];intro z hz;exact HBY.out z (List.mem_of_mem_drop (List.mem_of_mem_take hz))
    obtain ⟨b3, b1', b2, b4⟩ := df.blk_at hLB0 (hAP.trans hk) hbc hcl;obtain ⟨m, hm'⟩ : ∃ z, ch.length = z := ⟨_, rfl⟩;rw [hm'] at b1' b2 b3 b4 hcl hch hic hq;have hm6 := hcl;have HB1 := hd_ b1';have HB2x := hd_ b2;have HB3x := hd_ b3;have HB4x := hd_ b4;have HMC := hd_ hm';have hLB : L = A ++ (bt.bitsOf false q 3 ++ (List.replicate 5 false ++ bt.bitsOf false ch.length 16 ++ bt.bitsOf false (ch.length ^^^ 65535) 16 ++ (ch.flatMap fun x => bt.bitsOf false x.toNat 8) ++ (R ++ E))) := by
     rw [hLB0];unfold df.blk;simp only [List.append_assoc]
    have hblen : (df.blk q ch).length = 40 + 8 * m := (by rw [df.blk_length, hm']);have HSN := hd_ hsn;have HBL := hd_ hblen;have hout : l.take i ++ ch = l.take (i + m) := (by rw [List.take_add, <- hch]);have HOUT := hd_ hout;have hP8' : 8 * k + 8 + 32 + 8 * m <= 8 * n := (by have := HN.out; omega);have HKP := hd_ hk;clear hLB0 hbc b1' b2 b3 b4 hm' hsn hblen hout hcl;rcases hq with ⟨rfl, hR, hie⟩ | ⟨rfl, hR, hm1⟩
    ·have hnext : R = [] := hR
     have T1 := hd_ (itake_any HJ.out HN.out 1 (by decide) (by have := HN.out; omega));obtain ⟨p3, q1, q2⟩ := df.head_at hLB df.bits3_1 (by decide) (by decide);rw [hAP] at p3 q1 q2;rw [q1] at T1;have HP3 := hd_ p3;have HQ2 := hd_ q2;have HAP := hd_ hAP;have HLT := hd_ hLT;have HTT := hd_ hT;have HNX := hd_ hnext;have HCH := hd_ hch;clear hT hLT hLB hAP hPT p3 q1 q2 hnext hch;go_wp2_with fail
     refine T1.out.mono ?_;rintro e w3 ⟨rfl, hi3, hf3⟩;have T2 := hd_ (itake_any hi3 HN.out 2 (by decide) (by have := HN.out; have := HP3.out; omega));rw [HQ2.out] at T2;have HB3 := hd_ (HBW.out.trans hf3.below);clear hi3 hf3 T1 HJ HBW;go_wp2_with fail
     refine T2.out.mono ?_;rintro e w4 ⟨rfl, hi4, hf4⟩;have HB4 := hd_ (HB3.out.trans hf4.below);have ST := hd_ (istored_any hi4 HN.out (by omega) (8 * k + 8) m (by omega) HB1.out (by rw [show 8 * k + 8 + 16 = 8 * k + 24 by omega]; exact HB2x.out) hm6 (by have := HN.out; have := HB3x.out; omega) (by rw [List.length_take]; omega));clear hi4 hf4 T2 HB3;go_wp2_with fail
     refine ST.out.mono ?_;rintro e w6 ⟨rfl, v6, hi6, hf6⟩;rw [show (8 * k + 8 + 32) / 8 = k + 5 by omega, HB4x.out] at hi6;have HB6 := hd_ (HB4.out.trans hf6.below);have HJ6 := hd_ hi6;clear hi6 hf6 ST HB4;go_wp2_with fail
     go_roundg 0
     case measure => have := Hg.out; omega
     case rel =>
      rw [HOUT.out] at HJ6;refine ⟨true, i + m, _, v6, rfl, rfl, by omega, HJ6.out, HB6.out, (fun _ => ⟨hie, ?_⟩), (fun e => by cases e)⟩;have h1 := HPT.out;have h2 := HBL.out;rw [HTT.out, HSN.out, HNX.out, List.append_nil, h2] at h1;have := HKP.out;omega
    ·have hnext : R = df.sto (l.drop (i + m)) := hR
     have T1 := hd_ (itake_any HJ.out HN.out 1 (by decide) (by have := HN.out; omega));obtain ⟨p3, q1, q2⟩ := df.head_at hLB df.bits3_0 (by decide) (by decide);rw [hAP] at p3 q1 q2;rw [q1] at T1;have HP3 := hd_ p3;have HQ2 := hd_ q2;have HAP := hd_ hAP;have HLT := hd_ hLT;have HTT := hd_ hT;have HNX := hd_ hnext;have HCH := hd_ hch;clear hT hLT hLB hAP hPT p3 q1 q2 hnext hch;go_wp2_with fail
     refine T1.out.mono ?_;rintro e w3 ⟨rfl, hi3, hf3⟩;have T2 := hd_ (itake_any hi3 HN.out 2 (by decide) (by have := HN.out; have := HP3.out; omega));rw [HQ2.out] at T2;have HB3 := hd_ (HBW.out.trans hf3.below);clear hi3 hf3 T1 HJ HBW;go_wp2_with fail
     refine T2.out.mono ?_;rintro e w4 ⟨rfl, hi4, hf4⟩;have HB4 := hd_ (HB3.out.trans hf4.below);have ST := hd_ (istored_any hi4 HN.out (by omega) (8 * k + 8) m (by omega) HB1.out (by rw [show 8 * k + 8 + 16 = 8 * k + 24 by omega]; exact HB2x.out) hm6 (by have := HN.out; have := HB3x.out; omega) (by rw [List.length_take]; omega));clear hi4 hf4 T2 HB3;go_wp2_with fail
     refine ST.out.mono ?_;rintro e w6 ⟨rfl, v6, hi6, hf6⟩;rw [show (8 * k + 8 + 32) / 8 = k + 5 by omega, HB4x.out] at hi6;have HB6 := hd_ (HB4.out.trans hf6.below);have HJ6 := hd_ hi6;clear hi6 hf6 ST HB4;go_wp2_with fail
     go_roundg (l.length - (i + m) + 1)
     case measure => have := Hg.out; omega
     case rel =>
      rw [HOUT.out] at HJ6;refine ⟨false, i + m, _, v6, rfl, rfl, by omega, HJ6.out, HB6.out, (fun e => by cases e), fun _ => ⟨A ++ df.blk 0 ch, R, ?_, ?_, ?_, .inl ⟨HNX.out, by omega, by omega⟩⟩⟩
      ·rw [HLT.out, HTT.out, HSN.out]
       simp only [List.append_assoc]
      ·rw [List.length_append, HAP.out, HBL.out]
       have := HKP.out;omega
      ·have h1 := HPT.out
       rw [HTT.out, HSN.out, List.length_append, HBL.out] at h1;have := HKP.out;omega
   ·subst hi0
    rw [hT, List.append_assoc] at hLT;obtain ⟨p3, q1, q2⟩ := df.head_at hLT df.bits3_3 (by decide) (by decide);rw [hAP] at p3 q1 q2;have T1 := hd_ (itake_any HJ.out HN.out 1 (by decide) (by have := HN.out; omega));rw [q1] at T1;have HLT := hd_ hLT;have HP3 := hd_ p3;have HQ2 := hd_ q2;have HTT := hd_ hT;have HGD := hd_ hgd;have HFR := hd_ hfr;have HAP := hd_ hAP;clear hT hLT hAP hPT hfr hgd p3 q1 q2;go_wp2_with fail
    refine T1.out.mono ?_;rintro e w3 ⟨rfl, hi3, hf3⟩;have T2 := hd_ (itake_any hi3 HN.out 2 (by decide) (by have := HN.out; have := HP3.out; omega));rw [HQ2.out] at T2;have HB3 := hd_ (HBW.out.trans hf3.below);clear hi3 hf3 T1 HJ HBW;go_wp2_with fail
    refine T2.out.mono ?_;rintro e w4 ⟨rfl, hi4, hf4⟩;have HJ4 := hd_ hi4;have HB4 := hd_ (HB3.out.trans hf4.below);clear hi4 hf4 T2 HB3;go_wp2_with fail
    refine (ifixed_any w4).mono ?_;rintro e w5 ⟨g1, g2, t1, t2, rfl, hd1, hd2, hb5⟩;obtain ⟨hi5, hf5⟩ := HJ4.out.below hb5;have hL5 : L = (A ++ bt.bitsOf false 3 3) ++ (df.bodyBits df.fixL df.fixD ps ++ E) := (by rw [HLT.out]; simp only [List.append_assoc]);have SY := hd_ (symbols_any hi5 HN.out hd1 hd2 df.fixL_ok df.fixD_ok (by rw [df.fixL_length]; decide) (by rw [df.fixL_length]; decide) (by rw [df.fixD_length]; decide) (by rw [df.fixD_length]; decide) ps HFR.out (fun p hp => df.fix_covers (HGD.out p hp)) (df.fixL_pos 256 (by decide)) (A ++ bt.bitsOf false 3 3) E hL5 (by rw [List.length_append, bt.bitsOf_length, HAP.out]) HBY.out hl);have HB5 := hd_ (HB4.out.trans hf5.below);clear hd1 hd2 hb5 hi5 hf5 hL5 HJ4 HB4;go_wp2_with fail
    refine SY.out.mono ?_;rintro e w6 ⟨rfl, v6, hi6, hf6⟩;have HJ6 := hd_ hi6;have HB6 := hd_ (HB5.out.trans hf6.below);clear hi6 hf6 SY HB5;go_wp2_with fail
    go_roundg 0
    case measure => have := Hg.out; omega
    case rel =>
     refine ⟨true, l.length, _, v6, rfl, rfl, Nat.le_refl _, HJ6.out, HB6.out, (fun _ => ⟨rfl, ?_⟩), (fun e => by cases e)⟩;have := HPT.out;rw [HTT.out, List.length_append, bt.bitsOf_length] at this;omega
   ·subst hi0
    rw [hT] at hLT;have hLT5 : L = A ++ (bt.bitsOf false 5 3 ++ (df.headBits C (Lt ++ Dt) ++ (df.bodyBits Lt Dt ps ++ E))) := (by rw [hLT]; simp only [List.append_assoc]);obtain ⟨p3, q1, q2⟩ := df.head_at hLT5 df.bits3_5 (by decide) (by decide);rw [hAP] at p3 q1 q2;have T1 := hd_ (itake_any HJ.out HN.out 1 (by decide) (by have := HN.out; omega));rw [q1] at T1;have HLT := hd_ hLT5;have HP3 := hd_ p3;have HQ2 := hd_ q2;have HTT := hd_ hT;have HFR := hd_ hfr;have HAP := hd_ hAP;have HX := hd_ (And.intro l1 (And.intro l2 (And.intro l3 (And.intro mL (And.intro mD (And.intro mC (And.intro c7 (And.intro cp (And.intro cv e2)))))))));clear hT hLT hLT5 hAP hPT hfr p3 q1 q2 l1 l2 l3 mL mD mC c7 cp cv e2;go_wp2_with fail
    refine T1.out.mono ?_;rintro e w3 ⟨rfl, hi3, hf3⟩;have T2 := hd_ (itake_any hi3 HN.out 2 (by decide) (by have := HN.out; have := HP3.out; omega));rw [HQ2.out] at T2;have HB3 := hd_ (HBW.out.trans hf3.below);clear hi3 hf3 T1 HJ HBW;go_wp2_with fail
    refine T2.out.mono ?_;rintro e w4 ⟨rfl, hi4, hf4⟩;have HB4 := hd_ (HB3.out.trans hf4.below);have hL4 : L = (A ++ bt.bitsOf false 5 3) ++ (df.headBits C (Lt ++ Dt) ++ (df.bodyBits Lt Dt ps ++ E)) := (by rw [HLT.out]; simp only [List.append_assoc]);have DY := hd_ (by
     obtain ⟨l1, l2, l3, mL, mD, mC, c7, cp, cv, e2⟩ := HX.out;exact idynamic_any hi4 HN.out l1 l2 l3 mL mD mC c7 cp e2 (A ++ bt.bitsOf false 5 3) (df.bodyBits Lt Dt ps ++ E) hL4 (by rw [List.length_append, bt.bitsOf_length, HAP.out]))
    clear hi4 hf4 T2 HB3 hL4;go_wp2_with fail
    refine DY.out.mono ?_;rintro e w5 ⟨g1, g2, t1, t2, rfl, hd1, hd2, hi5, hf5⟩;have HB5 := hd_ (HB4.out.trans hf5.below);have hL5 : L = (A ++ bt.bitsOf false 5 3 ++ df.headBits C (Lt ++ Dt)) ++ (df.bodyBits Lt Dt ps ++ E) := (by rw [HLT.out]; simp only [List.append_assoc]);have SY := hd_ (by
     obtain ⟨l1, l2, l3, mL, mD, mC, c7, cp, cv, e2⟩ := HX.out;exact symbols_any hi5 HN.out hd1 hd2 mL.ok mD.ok (by omega) (by omega) (by omega) (by omega) ps HFR.out cv e2 (A ++ bt.bitsOf false 5 3 ++ df.headBits C (Lt ++ Dt)) E hL5 (by rw [List.length_append, List.length_append, bt.bitsOf_length, HAP.out]) HBY.out hl)
    clear hd1 hd2 hi5 hf5 hL5 DY HB4;go_wp2_with fail
    refine SY.out.mono ?_;rintro e w6 ⟨rfl, v6, hi6, hf6⟩;have HJ6 := hd_ hi6;have HB6 := hd_ (HB5.out.trans hf6.below);clear hi6 hf6 SY HB5;go_wp2_with fail
    go_roundg 0
    case measure => have := Hg.out; omega
    case rel =>
     refine ⟨true, l.length, _, v6, rfl, rfl, Nat.le_refl _, HJ6.out, HB6.out, (fun _ => ⟨rfl, ?_⟩), (fun e => by cases e)⟩;have := HPT.out;rw [HTT.out, List.length_append, List.length_append, bt.bitsOf_length] at this;omega
  ·obtain ⟨hil, hPS⟩ := hend rfl
   subst hil hPS;have hx0 := (cr_ _ 0 HJ.out.head (Value.pointer (some ⟨r, 0, none⟩)) rfl);have hx1 := (cell_of_row _ _ 1 _ _ (0, 0) HJ.out.head).trans (show _ = some v' from rfl);have HZ : Hid (∀ (dq : Nat) (os : Array Obj), Calls Tryz.prog 66 #[.pointer (some ⟨r, 0, none⟩)] (grow (redrawn wr dq) os) fun e w'' => e = .returned (.int .i64 (S.length : Nat)) /\ ∃ p : Regrown, w'' = grow (redrawn wr p.d) p.os) := hd_ (fun dq os =>
    (place_any (HJ.out.rd.below (below_regrown wr dq os))).mono (by rintro e w' ⟨rfl, rfl⟩; exact ⟨rfl, ⟨dq, os⟩, rfl⟩))
   have hbw := HB2.out;have hbq := hbw.trans HBW.out;have q1 := (hbq.block rb (by have := HRBS.out; omega)).trans K1.out;have q2 := (hbq.block rb1 (by have := HRBS.out; omega)).trans K2.out;have q3 := (hbq.block rb2 (by have := HRBS.out; omega)).trans K3.out;have hSn : S.length <= 549755813888 := (by have h1 := HN.out; have h2 := congrArg List.length HLL.out; rw [List.length_append] at h2; omega);obtain ⟨Sn, hSne⟩ : ∃ z, S.length = z := ⟨_, rfl⟩;rw [hSne] at HZ hSn;have HSN := hd_ hSne;have w7 : IntKind.i64.wrap ((Sn : Int) + 7) = ((Sn + 7 : Nat) : Int) := i64o (by omega) (by omega);obtain ⟨S7, hS7⟩ : ∃ z, Sn + 7 = z := ⟨_, rfl⟩;rw [hS7] at w7;have HS7 := hd_ hS7;have HBQ := hd_ hbq;have Q1 := hd_ q1;have Q2 := hd_ q2;have Q3 := hd_ q3;clear hend htodo hbw hbq q1 q2 q3 hSne hS7;obtain ⟨va, vc, rfl, _⟩ := own_slice' HJ.out.row;obtain ⟨sn, hsn⟩ : ∃ z, (l.take l.length).length = z := ⟨_, rfl⟩;have HSNN := hd_ hsn;rw [hsn] at hx1 HJ;obtain ⟨us, hus⟩ : ∃ z, S7 / 8 = z := ⟨_, rfl⟩;have hus1 : (S7 : Int) / 8 = (us : Int) := (by omega);have hus2 : Int.tdiv (S7 : Int) 8 = (us : Int) := (by rw [Int.tdiv_eq_ediv_of_nonneg (by omega)]; exact hus1);have HUS := hd_ hus;have w8 : IntKind.i64.wrap (us : Int) = (us : Int) := IntWalk.i64_in _ (by have := HS7.out; omega);have n12 : rb ≠ rb1 /\ rb ≠ rb2 /\ rb1 ≠ rb2 /\ rb ≠ x /\ rb < b0 := by
    have h1 := HRBS.out;have h2 := HJ.out.hx;have h3 := HJ.out.hb;omega
   have HNE := hd_ n12;have HX0 := hd_ hx0;have HX1 := hd_ hx1;have HGF : Hid (∀ b u, RawG wr rb (.slice va sn vc) b u -> u.cell? ⟨x, 0, none⟩ = some (.pointer (some ⟨r, 0, none⟩)) /\ u.cell? ⟨x, 1, none⟩ = some (.slice va sn vc) /\ bt.Rr u r false (bt.bytes false L) Sn sb n c) := hd_ (by
    rintro b u ⟨u0, hb0, rfl⟩;have r0 := HJ.out.rd.below hb0;rw [HSN.out] at r0;have y0 := keep_cell hb0 HX0.out;have y1 := keep_cell hb0 HX1.out;cases b
    ·exact ⟨y0, y1, r0⟩
    ·have hg := grownBy_setCell3 u0 rb 0 (.slice va sn vc)
     have hx9 := (hb0.block _ (block_lt HJ.out.head)).trans HJ.out.head;have hx10 := (heap_setCell_other u0 ⟨rb, 0, none⟩ x (.slice va sn vc) (fun e => HNE.out.2.2.2.1 e.symm)).trans hx9;refine ⟨(cell_of_row _ _ 0 _ _ (0, 0) hx10).trans rfl, (cell_of_row _ _ 1 _ _ (0, 0) hx10).trans rfl, ⟨grown_block hg r0.head (fun e => ?_), r0.data.kept hg (fun e => ?_), r0.apart, r0.small⟩⟩
     ·have := Option.some.inj e
      have := HRR.out;have := HNE.out.2.2.2.2;omega
     ·have := Option.some.inj e
      have := HSB.out;have := HNE.out.2.2.2.2;omega)
   have HGR : Hid (∀ u, RawG wr rb (.slice va sn vc) false u -> u.cell? ⟨rb, 0, none⟩ = some (.slice none 0 0) /\ u.frozen? ⟨rb, 0, none⟩ = false) := hd_ (by
    rintro u ⟨u0, hb0, hu⟩;have hu' : u = u0 := hu;subst hu';have q := (hb0.block _ (block_lt Q1.out)).trans Q1.out;exact ⟨(cell_of_row _ _ 0 _ _ (0, 0) q).trans rfl, frozen_of_row _ _ 0 _ _ q⟩)
   have HGS : Hid (∀ u, RawG wr rb (.slice va sn vc) false u -> RawG wr rb (.slice va sn vc) true (u.setCell ⟨rb, 0, none⟩ (.slice va sn vc))) := hd_ (by
    rintro u ⟨u0, hb0, hu⟩;have hu' : u = u0 := hu;subst hu';exact ⟨u, hb0, rfl⟩)
   clear hsn hus n12 hx0 hx1 HZ;go_upto_region 14 with (fail)
   refine wp_region_early (D := fun i => ([44, 45, 46, 47, 48, 49, 50, 51, 52, 53, 54] : List Nat).getD i 0) 12 11 (fun i => match i with
     | 0 => .pointer (some ⟨x, 0, none⟩)
     | 1 => .pointer (some ⟨x, 0, none⟩)
     | 2 => .pointer (some ⟨x, 1, none⟩)
     | 3 => .slice va sn vc
     | 4 => .pointer (some ⟨x, 0, none⟩)
     | 5 => .pointer (some ⟨x, 0, none⟩)
     | 6 => .pointer (some ⟨x, 0, none⟩)
     | 7 => .pointer (some ⟨r, 0, none⟩)
     | 8 => .int .i64 (Sn : Nat)
     | 9 => .int .i64 (S7 : Nat)
     | 10 => .int .i64 (us : Nat)
     | _ => undef) (RawG wr rb (.slice va sn vc)) (fun a => a.tmps[7]? = some (.pointer (some ⟨x, 0, none⟩)) /\ a.tmps[4]? = some (.pointer (some ⟨rb, 0, none⟩)))
    (by decide) (by decide) (by kernel_rfl) (by kernel_rfl) (by decide +kernel) (by decide +kernel) (by decide +kernel) (by decide +kernel) (by kernel_rfl) ⟨wr.drew, (Below.refl _ _).drew, rfl⟩ ?_ ?_ ?_
   ·intro a' hold
    exact ⟨hold 7 (by decide), hold 4 (by decide)⟩
   ·refine ⟨?_, ?_, ?_, ?_, ?_, ?_, ?_, ?_, ?_, ?_, ?_, ?_, trivial⟩
    ·intro a' u b hb hG hS hd
     have g0 := hS.1;clear hd;dsimp only at *;go_simp
     all_goals exact hG
    ·intro a' u b hb hG hS hd
     have f0 : a'.tmps[44]? = some _ := hd 0 (by kernel_rfl) (by decide);clear hd;dsimp only at *;go_simp
     all_goals exact hG
    ·intro a' u b hb hG hS hd
     have f1 : a'.tmps[45]? = some _ := hd 1 (by kernel_rfl) (by decide);clear hd;dsimp only at *;go_simp
     all_goals exact hG
    ·intro a' u b hb hG hS hd
     have f2 : a'.tmps[46]? = some _ := hd 2 (by kernel_rfl) (by decide);have g1 := (HGF.out b u hG).2.1;clear hd;dsimp only at *;go_simp
     all_goals exact hG
    ·intro a' u b hb hG hS hd
     have g0 := hS.1;clear hd;dsimp only at *;go_simp
     all_goals exact hG
    ·intro a' u b hb hG hS hd
     have f4 : a'.tmps[48]? = some _ := hd 4 (by kernel_rfl) (by decide);clear hd;dsimp only at *;go_simp
     all_goals exact hG
    ·intro a' u b hb hG hS hd
     have f5 : a'.tmps[49]? = some _ := hd 5 (by kernel_rfl) (by decide);clear hd;dsimp only at *;go_simp
     all_goals exact hG
    ·intro a' u b hb hG hS hd
     have f6 : a'.tmps[50]? = some _ := hd 6 (by kernel_rfl) (by decide);have g1 := (HGF.out b u hG).1;clear hd;dsimp only at *;go_simp
     all_goals exact hG
    ·intro a' u b hb hG hS hd
     have f7 : a'.tmps[51]? = some _ := hd 7 (by kernel_rfl) (by decide);have KP := hd_ (place_any (HGF.out b u hG).2.2);clear hd;dsimp only at *;go_simp
     refine KP.out.mono ?_;rintro e u' ⟨rfl, rfl⟩;exact ⟨rfl, hG⟩
    ·intro a' u b hb hG hS hd
     have f8 : a'.tmps[52]? = some _ := hd 8 (by kernel_rfl) (by decide);clear hd;dsimp only at *;go_simp
     all_goals exact hG
    ·intro a' u b hb hG hS hd
     have f9 : a'.tmps[53]? = some _ := hd 9 (by kernel_rfl) (by decide);clear hd;dsimp only at *;go_simp
     all_goals exact hG
    ·intro a' u b hb hG hS hd
     have f3 : a'.tmps[47]? = some _ := hd 3 (by kernel_rfl) (by decide);have g0 := hS.2;obtain rfl := hb rfl;obtain ⟨g1, g2⟩ := HGR.out u hG;clear hd;dsimp only at *;go_simp
     exact HGS.out u hG
   ·intro a' u h
    have e47 : a'.tmps[47]? = some (.slice va sn vc) := h.new 3 (by decide) (by decide) (by decide +kernel);have e54 : a'.tmps[54]? = some (.int .i64 (us : Nat)) := h.new 10 (by decide) (by decide) (by decide +kernel);have htm := tmps_set h.size [44, 45, 46, 47, 48, 49, 50, 51, 52, 53, 54] (fun d hd => h.old d (fun i hi his e => hd (by rw [<- e]; exact mem_getD (by show i < 11; omega))));have hdf := h.defers;obtain ⟨u0, hb9, hu⟩ := h.world;have hu9 : u = u0.setCell ⟨rb, 0, none⟩ (.slice va sn vc) := (by rw [hu, if_pos (by decide +kernel)]);subst hu9;clear h hu;obtain ⟨fx, hf⟩ : ∃ f : Nat -> Value, (fun i => a'.tmps.getD i undef) = f := ⟨_, rfl⟩;replace e47 : (fun i => a'.tmps.getD i undef) 47 = _ := slot_of e47;replace e54 : (fun i => a'.tmps.getD i undef) 54 = _ := slot_of e54;have hff : ∀ i, a'.tmps.getD i undef = fx i := fun i => congrFun hf i
    simp only [hff] at e47 e54;simp only [List.foldl_cons, List.foldl_nil, hff] at htm;obtain ⟨tmps, defers⟩ := a';dsimp only at hdf htm;subst hdf;rw [htm, e47, e54];clear htm hf hff e47 e54;have q1 := (hb9.block _ (block_lt Q1.out)).trans Q1.out;have q2 := (hb9.block _ (block_lt Q2.out)).trans Q2.out;have q3 := (hb9.block _ (block_lt Q3.out)).trans Q3.out;have r1 := heap_setCell_same u0 rb 0 _ _ (.slice va sn vc) q1;have r2 := (heap_setCell_other u0 ⟨rb, 0, none⟩ rb1 (.slice va sn vc) (fun e => HNE.out.1 e.symm)).trans q2;have r3 := (heap_setCell_other u0 ⟨rb, 0, none⟩ rb2 (.slice va sn vc) (fun e => HNE.out.2.1 e.symm)).trans q3;have hrow9 := (HJ.out.below hb9).1.row;rw [HSNN.out] at hrow9;have hrow10 := World.ownsRow.kept hrow9 (grownBy_setCell3 u0 rb 0 (.slice va sn vc)) (.inr (fun e => by
     have h1 := (World.ownsRow.lt hrow9 rb e).1;have h2 := HNE.out.2.2.2.2;have h3 := HJ.out.hb;omega))
    have HB9W : Hid (Below b0 w0 u0) := hd_ (HBQ.out.trans (hb9.mono (by rw [<- HB0E.out]; exact HBQ.out.size)));obtain ⟨w9, hw9⟩ : ∃ z, u0.setCell ⟨rb, 0, none⟩ (.slice va sn vc) = z := ⟨_, rfl⟩;have hg9 := grownBy_setCell3 u0 rb 0 (.slice va sn vc);rw [hw9] at r1 r2 r3 hrow10 hg9;rw [hw9];have HG9 := hd_ hg9;have HR1 := hd_ r1;have HROW := hd_ hrow10;have a2 := (cr_ _ 0 r2 (Value.int .i64 0) rfl);have f2 := frozen_of_row _ _ 0 _ _ r2;have s2 := heap_setCell_same w9 rb1 0 _ _ (.int .i64 (us : Nat)) r2;have s3 := (heap_setCell_other w9 ⟨rb1, 0, none⟩ rb2 (.int .i64 (us : Nat)) (fun e => HNE.out.2.2.1 e.symm)).trans r3;have a3 := (cr_ _ 0 s3 (Value.int .i64 0) rfl);have f3 := frozen_of_row _ _ 0 _ _ s3;have S2 := hd_ s2;have S3 := hd_ s3;clear q1 q2 q3 r1 r2 r3 hrow9 hrow10 hg9 s2 s3 hw9;simp only [List.setIfInBounds_toArray, List.set_cons_succ, List.set_cons_zero];go_wp2_with fail
    refine leaves_cons (f := 60) (args := #[.pointer (some ⟨rb, 0, none⟩), .pointer (some ⟨rb1, 0, none⟩), .pointer (some ⟨rb2, 0, none⟩)]) (by simp) (by simp [go_sem]) ?_;refine (raw1_idle ⟨rb, 0, none⟩ ⟨rb1, 0, none⟩ ⟨rb2, 0, none⟩ _).mono ?_;rintro e u' w12 ⟨rfl, rfl, rfl⟩;have hg2 := grownBy_setCell3 w9 rb1 0 (.int .i64 (us : Nat));have hg3 := grownBy_setCell3 (w9.setCell ⟨rb1, 0, none⟩ (.int .i64 (us : Nat))) rb2 0 (.int .i64 0);have z1 := grown_block hg3 (grown_block hg2 HR1.out (fun e => HNE.out.1 (Option.some.inj e))) (fun e => HNE.out.2.1 (Option.some.inj e));have z2 := grown_block hg3 S2.out (fun e => HNE.out.2.2.1 (Option.some.inj e));have z3 := heap_setCell_same (w9.setCell ⟨rb1, 0, none⟩ (.int .i64 (us : Nat))) rb2 0 _ _ (.int .i64 0) S3.out;have d1 := (cr_ _ 0 z1 (Value.slice va sn vc) rfl);have d2 := (cr_ _ 0 z2 (Value.int .i64 (us : Nat)) rfl);have d3 := (cr_ _ 0 z3 (Value.int .i64 0) rfl);have hlt : ∀ k, (Value.slice va sn vc).ownBlock = some k -> b1 <= k := fun k e => (World.ownsRow.lt HROW.out k e).1
    have nb1 : rb1 < b1 /\ rb2 < b1 := by
     have h1 := HRBS.out;have h2 := HJ.out.hb;omega
    have ho := World.ownsRow.kept (World.ownsRow.kept HROW.out hg2 (.inr (fun e => by have := hlt _ e; omega))) hg3 (.inr (fun e => by have := hlt _ e; omega));have hpost : IRawPost S l w (.returned (.tuple #[.slice va sn vc, .int .i64 (us : Nat), .int .i64 0])) ((w9.setCell ⟨rb1, 0, none⟩ (.int .i64 (us : Nat))).setCell ⟨rb2, 0, none⟩ (.int .i64 0)) := by
     have hsl : l.length = sn := (by rw [<- HSNN.out, List.length_take]; omega);refine ⟨.slice va sn vc, ?_, ?_, ?_⟩
     ·have e1 := HSN.out
      have e2 := HS7.out;have e3 := HUS.out;rw [e1, e2, e3]
     ·rw [hsl]
      have h9 := World.ownsRow.mono ho HBB.out;rw [List.take_of_length_le (Nat.le_refl l.length)] at h9;exact h9
     ·have h1 := HB0.out
      have hk := HRB.out;have hk1 := HRBS.out;have t0 : Below w.heap.size w w9 := (h1.trans (HB9W.out.mono (by rw [<- HB0E.out]; exact h1.size))).grown HG9.out (Nat.le_trans h1.size HB9W.out.size) (fun k e => by obtain rfl := Option.some.inj e; omega);have t1 := t0.grown hg2 t0.size (fun k e => by obtain rfl := Option.some.inj e; omega);exact t1.grown hg3 t1.size (fun k e => by obtain rfl := Option.some.inj e; omega)
    exact ⟨_, results_cell3 (p := 4) (q := 5) (s := 6) rfl _ _ rb rb1 rb2 _ _ _ rfl rfl rfl d1 d2 d3 Tryz.underlying22 Tryz.underlying3 Tryz.underlying25, hpost⟩
end Go.Proofs.YthpckmcgbmfmcaaGreatDoor
