/- Texts of this claim, joined. -/
import Derived.Test.YthpckmcgbmfmcaaGreatDoorM24
set_option maxRecDepth 100000
set_option maxHeartbeats 12800000
namespace Go.Proofs.YthpckmcgbmfmcaaGreatDoor
open Go.RowKit Go.Sort
namespace bt
def pad (L : List Bool) : List Bool := L ++ List.replicate (8 * ((L.length + 7) / 8) - L.length) false
theorem pad_length (L : List Bool) : (pad L).length = 8 * ((L.length + 7) / 8) := by
 unfold pad;rw [List.length_append, List.length_replicate];omega
theorem pad_getD (L : List Bool) (i : Nat) : (pad L).getD i false = L.getD i false := by
 unfold pad;rw [List.getD_eq_getElem?_getD, List.getD_eq_getElem?_getD];rcases Nat.lt_or_ge i L.length with h | h
 ·rw [List.getElem?_append_left h]
 ·rw [List.getElem?_append_right h, List.getElem?_eq_none h, List.getElem?_replicate]
  split <;> rfl
theorem pad_bytes (up : Bool) (L : List Bool) : bytes up (pad L) = bytes up L := by
 unfold bytes;rw [pad_length, show (8 * ((L.length + 7) / 8) + 7) / 8 = (L.length + 7) / 8 by omega];refine List.map_congr_left fun j _ => ?_
 unfold byteOf;rw [num_congr (fun p _ => pad_getD L _)]
end bt
def bt.AlPost (base g : Nat) (up : Bool) (L : List Bool) (w : World) (e : Ending) (w' : World) : Prop := e = .returned (.tuple #[]) /\ ∃ v', bt.Wr base w' g up L v' /\ bt.Fr base g w w'
theorem align_any {base g : Nat} {w : World} {up : Bool} {L : List Bool} {v : Value} (h : bt.Wr base w g up L v) (hL : L.length <= 1099511627776) :
  Calls Tryz.prog 96 #[.pointer (some ⟨g, 0, none⟩)] w (bt.AlPost base g up (bt.pad L) w) := by
 have hlen := bt.pad_length L;obtain ⟨n, hn⟩ : ∃ n, (L.length + 7) / 8 = n := ⟨_, rfl⟩;have e1 : IntKind.i64.wrap (8 * (n : Int)) = ((8 * n : Nat) : Int) := i64o (by omega) (by omega);rw [hn] at hlen;have c0 := (cell_of_row w _ 0 _ _ (0, 0) h.head).trans (show _ = some v from rfl);have f1 := frozen_of_row w _ 1 _ _ h.head;have c1 := (cr_ w 1 h.head (Value.int .i64 (L.length : Nat)) rfl);have HR := h.row;rw [hn] at HR;obtain ⟨a, c, rfl, h1, h2, h3⟩ := own_slice' HR;obtain ⟨m, hm⟩ : ∃ m, 8 * n = m := ⟨_, rfl⟩;rw [hm] at e1 hlen;have hm2 : (m + 7) / 8 = n := by omega
 have HW : Hid (bt.Wr base (w.setCell ⟨g, 1, none⟩ (.int .i64 (m : Nat))) g up (bt.pad L) (.slice a n c) /\ bt.Fr base g w (w.setCell ⟨g, 1, none⟩ (.int .i64 (m : Nat)))) := hd_ (by
  refine ⟨⟨h.lies, ?_, ?_⟩, (Below.refl _ _).setCell h.lies _, Lib.OthersKept.setCell (b := g) (Lib.OthersKept.refl _ _ _) ⟨g, 1, none⟩ rfl _⟩
  ·rw [heap_setCell_same _ _ _ _ _ _ h.head, hlen]
   rfl
  ·rw [hlen, hm2, bt.pad_bytes]
   refine ownsRow_setCell_other HR (a := ⟨g, 1, none⟩) ?_ _;rcases row_apart HR h.head (by decide) with e | e
   ·rw [e]; simp
   ·exact e)
 clear h HR h1 h2 h3 hlen hn hm hm2;go_enter Tryz.func96, Tryz.ntmps96
 go_wp2_with fail
 refine bodyPost_end (results_none rfl _ _ _) rfl ?_;exact ⟨rfl, _, HW.out⟩
namespace df
def blk (last : Nat) (l : List Int) : List Bool :=
 bt.bitsOf false last 3 ++ List.replicate 5 false ++ bt.bitsOf false l.length 16 ++ bt.bitsOf false (l.length ^^^ 65535) 16 ++ l.flatMap fun x => bt.bitsOf false x.toNat 8
theorem bytes8_length (l : List Int) : (l.flatMap fun x => bt.bitsOf false x.toNat 8).length = 8 * l.length := by
 induction l with
 | nil => rfl
 | cons a r ih => rw [List.flatMap_cons, List.length_append, ih, bt.bitsOf_length, List.length_cons]; omega
theorem blk_length (last : Nat) (l : List Int) : (blk last l).length = 40 + 8 * l.length := by
 unfold blk;simp only [List.length_append, bt.bitsOf_length, List.length_replicate, bytes8_length]
def sto (l : List Int) : List Bool := if l.length <= 65535 then blk 1 l else blk 0 (l.take 65535) ++ sto (l.drop 65535)
termination_by l.length
decreasing_by rw [List.length_drop]; omega
theorem sto_last {l : List Int} (h : l.length <= 65535) : sto l = blk 1 l := by rw [sto, if_pos h]
theorem sto_more {l : List Int} (h : ¬ l.length <= 65535) : sto l = blk 0 (l.take 65535) ++ sto (l.drop 65535) := by rw [sto, if_neg h]
def rest (fst : Bool) (l : List Int) : List Bool := if fst = true \/ 0 < l.length then sto l else []
end df
theorem df.pad3 (L : List Bool) (h : L.length % 8 = 0) (x : Nat) : bt.pad (L ++ bt.bitsOf false x 3) = L ++ (bt.bitsOf false x 3 ++ List.replicate 5 false) := by
 unfold bt.pad;rw [List.length_append, bt.bitsOf_length, show 8 * ((L.length + 3 + 7) / 8) - (L.length + 3) = 5 by omega, List.append_assoc]
theorem df.xor_u32 (m : Nat) (h : m <= 65535) : bits .xor .u32 (m : Int) 65535 = ((m ^^^ 65535 : Nat) : Int) := by
 have e : ∀ n : Nat, n <= 65535 -> (BitVec.ofInt 32 (n : Int)).toNat = n := fun n hn => by
  rw [BitVec.toNat_ofInt];omega
 have hx : m ^^^ 65535 < 65536 := Nat.xor_lt_two_pow (n := 16) (by omega) (by decide);show IntKind.u32.wrap ((BitVec.ofInt 32 (m : Int) ^^^ BitVec.ofInt 32 ((65535 : Nat) : Int)).toNat : Int) = _;rw [BitVec.toNat_xor, e m h, e _ (Nat.le_refl _), IntKind.wrap_u32];omega
theorem getD_memI {l : List Int} {i : Nat} (h : i < l.length) : l.getD i 0 ∈ l := by
 rw [List.getD_eq_getElem?_getD, List.getElem?_eq_getElem h];exact List.getElem_mem h
theorem take_snocI {l : List Int} {i : Nat} (h : i < l.length) : l.take (i + 1) = l.take i ++ [l.getD i 0] := by
 rw [List.take_add_one, List.getD_eq_getElem?_getD, List.getElem?_eq_getElem h];rfl
def df.StoPost (l : List Int) (w : World) (e : Ending) (w' : World) : Prop := OwnPost w.heap.size (((df.sto l).length + 7) / 8) (bt.bytes false (df.sto l)) w e w'
theorem stored_any (a : Option Addr) (n cap : Nat) (l : List Int) (w : World) (h : Sl .u8 w a n cap l) (hn : n <= 68719476736) : Calls Tryz.prog 49 #[.slice a n cap] w (df.StoPost l w) := by
 have HS := hd_ h;have HL := hd_ h.len;have HBY := hd_ h.bytes;clear h;have KW := hd_ newWriter_any;go_enter Tryz.func49, Tryz.ntmps49
 go_wp2_with fail
 refine (KW.out false w).mono ?_;rintro e w1 ⟨g, rfl, hw1, hb1⟩;have HW1 := hd_ hw1;have HB1 := hd_ hb1;have HSZ := hd_ hb1.size;clear hw1 hb1 KW;go_wp2_with fail
 go_loopg [0, 4] (n + 1) (fun gk s0 s4 wr => ∃ (fst : Bool) (o m c : Nat) (ad : Option Addr) (L : List Bool) (v' : Value), o + m = n /\ gk = m + (if fst = true then 1 else 0) /\ s0 = .slice ad m c /\ s4 = .bool fst /\ (m = 0 \/ Sl .u8 w ad m c (l.drop o)) /\ L ++ df.rest fst (l.drop o) = df.sto l /\ L.length % 8 = 0 /\ L.length <= 9 * o + 80 /\ (fst = true \/ 0 < m -> L.length <= 9 * o) /\ (fst = false -> 0 < L.length) /\ bt.Wr w.heap.size wr g false L v' /\ bt.Fr w.heap.size g w1 wr)
 case atStart =>
  refine ⟨true, 0, n, cap, a, [], _, by omega, rfl, rfl, rfl, .inr (by rw [List.drop_zero]; exact HS.out), ?_, rfl, Nat.zero_le _, fun _ => Nat.zero_le _, (fun e => by cases e), HW1.out, bt.Fr.refl _ _ _⟩;unfold df.rest;rw [if_pos (.inl rfl), List.nil_append, List.drop_zero]
 case round =>
  obtain ⟨fst, o, m, c, ad, L, v', hom, hgk, rfl, rfl, hsl, hrest, hL8, hL9, hLm, hLf, hwr, hfr⟩ := hrel;have Hg := hd_ hgk;have HSL := hd_ hsl;have HR := hd_ hrest;have HW := hd_ hwr;have HF := hd_ hfr;have HLM := hd_ hLm;have HLF := hd_ hLf;clear hgk hsl hrest hwr hfr hLm hLf;have hdl : (l.drop o).length = m := by rw [List.length_drop, HL.out]; omega
  by_cases hgo : fst = true \/ 0 < m
  ·have hm0 : fst = true \/ (0 : Int) < (m : Int) := by rcases hgo with h | h; exact .inl h; exact .inr (by omega)
   have hrst : df.rest fst (l.drop o) = df.sto (l.drop o) := by
    unfold df.rest;rw [hdl];exact if_pos hgo
   rw [hrst] at HR;have hfit : m <= c := by
    rcases HSL.out with h | h
    ·rw [h]; exact Nat.zero_le _
    ·exact h.fits
   have HL0 : Hid (L.length <= 1099511627776 - 700000) := hd_ (by omega);have HLN := HL0;by_cases hlast : m <= 65535
   ·obtain ⟨nb, hnb⟩ : ∃ nb, m = nb := ⟨_, rfl⟩
    have HNB := hd_ hnb.symm;have hnm : nb <= m := (by omega);have hn6 : nb <= 65535 := (by omega);have hl3 : min (m : Int) 65535 = (nb : Int) := (by omega);have hq : ((nb : Int) == (m : Int)) = true := (by simp; omega);have e1 : IntKind.u32.wrap (nb : Int) = (nb : Int) := (by rw [IntKind.wrap_u32]; omega);have e2 : bits .xor .u32 (nb : Int) 65535 = ((nb ^^^ 65535 : Nat) : Int) := df.xor_u32 nb hn6;have hx3 : nb ^^^ 65535 < 65536 := Nat.xor_lt_two_pow (n := 16) (by omega) (by decide);obtain ⟨xm, hxm⟩ : ∃ xm, nb ^^^ 65535 = xm := ⟨_, rfl⟩;rw [hxm] at e2 hx3;have HXM := hd_ hxm;clear hxm;clear hnb;have hnc : (nb : Int) <= (c : Int) := (by omega);have hnc2 : nb <= c := (by omega);cases fst <;> simp only [Bool.false_eq_true, false_or, true_or] at hm0 hgo
    all_goals
     go_upto_region 9 with (fail)
     have CP := hd_ (put_any HW.out (Nat.le_trans HSZ.out HF.out.below.size) 1 3 (by omega) (by decide) (by have := HLN.out; omega));go_wp2_with fail
     refine CP.out.mono ?_;rintro e w3 ⟨rfl, vq, hw4, hf4⟩;have HF := hd_ (HF.out.trans hf4);have HW := hd_ hw4;obtain ⟨M1, eM1⟩ : ∃ x, L ++ bt.bitsOf false 1 3 = x := ⟨_, rfl⟩;rw [eM1] at HW;have HLN : Hid (M1.length <= 1099511627776 - 700000 + 3) := hd_ (by have := HLN.out; rw [<- eM1, List.length_append, bt.bitsOf_length]; omega);have EM1 := hd_ eM1;clear hw4 hf4 CP eM1;have CA := hd_ (align_any HW.out (by have := HLN.out; omega));go_wp2_with fail
     refine CA.out.mono ?_;rintro e w4 ⟨rfl, vq2, hw4, hf4⟩;have HF := hd_ (HF.out.trans hf4);rw [<- EM1.out, df.pad3 L hL8] at hw4;obtain ⟨M2, eM2⟩ : ∃ x, L ++ (bt.bitsOf false 1 3 ++ List.replicate 5 false) = x := ⟨_, rfl⟩;have HLN : Hid (M2.length <= 1099511627776 - 700000 + 8) := hd_ (by have := HL0.out; rw [<- eM2, List.length_append, List.length_append, bt.bitsOf_length, List.length_replicate]; omega);rw [eM2] at hw4;have HW := hd_ hw4;have EM2 := hd_ eM2;clear hw4 hf4 CA eM2;have CP := hd_ (put_any HW.out (Nat.le_trans HSZ.out HF.out.below.size) nb 16 (by omega) (by decide) (by have := HLN.out; omega));go_wp2_with fail
     refine CP.out.mono ?_;rintro e w5 ⟨rfl, vq, hw4, hf4⟩;have HF := hd_ (HF.out.trans hf4);have HW := hd_ hw4;obtain ⟨M3, eM3⟩ : ∃ x, M2 ++ bt.bitsOf false nb 16 = x := ⟨_, rfl⟩;rw [eM3] at HW;have HLN : Hid (M3.length <= 1099511627776 - 700000 + 40) := hd_ (by have := HLN.out; rw [<- eM3, List.length_append, bt.bitsOf_length]; omega);have EM3 := hd_ eM3;clear hw4 hf4 CP eM3;have CP := hd_ (put_any HW.out (Nat.le_trans HSZ.out HF.out.below.size) xm 16 (by omega) (by decide) (by have := HLN.out; omega));go_wp2_with fail
     refine CP.out.mono ?_;rintro e w6 ⟨rfl, vq, hw4, hf4⟩;have HF := hd_ (HF.out.trans hf4);have HW := hd_ hw4;obtain ⟨M4, eM4⟩ : ∃ x, M3 ++ bt.bitsOf false xm 16 = x := ⟨_, rfl⟩;rw [eM4] at HW;have HLN : Hid (M4.length <= 1099511627776 - 700000 + 60) := hd_ (by have := HLN.out; rw [<- eM4, List.length_append, bt.bitsOf_length]; omega);have EM4 := hd_ eM4;clear hw4 hf4 CP eM4;go_wp2_with fail
     go_loopg [41] nb (fun gk2 s41 wq => ∃ (i : Nat) (v2 : Value), i <= nb /\ gk2 = nb - i /\ s41 = .int .i64 (i : Nat) /\ bt.Wr w.heap.size wq g false (M4 ++ ((l.drop o).take i).flatMap fun x => bt.bitsOf false x.toNat 8) v2 /\ bt.Fr w.heap.size g w1 wq)
     case atStart => exact ⟨0, _, Nat.zero_le _, rfl, by go_num, by simpa using HW.out, HF.out⟩
     case round =>
      obtain ⟨i, v2, hi, hgk, rfl, hwr, hfr⟩ := hrel;have Hg2 := hd_ hgk;have HW := hd_ hwr;have HF := hd_ hfr;clear hgk hwr hfr;by_cases hlt : i < nb
      ·have hm1 : 0 < m := by omega
       have hs1 := (HSL.out.resolve_left (by omega)).below (HB1.out.trans HF.out.below);obtain ⟨bb, bo, rfl, hcl⟩ := hs1.cells hm1;have c0 := hcl i (by omega);have hby := HBY.out ((l.drop o).getD i 0) (List.mem_of_mem_drop (i := o) (getD_memI (by omega)));have htk : (l.drop o).take (i + 1) = (l.drop o).take i ++ [(l.drop o).getD i 0] := take_snocI (by omega);obtain ⟨x, hx⟩ := Int.eq_ofNat_of_zero_le hby.1;have hx2 : x < 256 := (by omega);rw [hx] at c0 htk;have HTK := hd_ htk;have e1 : IntKind.u32.wrap (x : Int) = (x : Int) := (by rw [IntKind.wrap_u32]; omega);have CP := hd_ (put_any HW.out (Nat.le_trans HSZ.out HF.out.below.size) x 8 (by omega) (by decide) (by have := HLN.out; rw [List.length_append, df.bytes8_length, List.length_take]; omega));have hin : (i : Int) < (nb : Int) := (by omega);clear hs1 hcl hby htk hx;go_wp2_with fail
       refine CP.out.mono ?_;rintro e w7 ⟨rfl, vq3, hw4, hf4⟩;have HF := hd_ (HF.out.trans hf4);rw [List.append_assoc] at hw4;have HW := hd_ hw4;clear hw4 hf4 CP c0;go_wp2_with fail
       go_roundg (nb - (i + 1))
       case measure => have := Hg2.out; omega
       case rel =>
        refine ⟨i + 1, vq3, by omega, rfl, by go_num, ?_, HF.out⟩;rw [HTK.out, List.flatMap_append, List.flatMap_singleton];exact HW.out
      ·have hie : i = nb := by omega
       have hnlt : ¬ (i : Int) < (nb : Int) := (by omega);have hnlt2 : ¬ i < nb := (by omega);obtain ⟨M5, eM5⟩ : ∃ x, M4 ++ ((l.drop o).take i).flatMap (fun x => bt.bitsOf false x.toNat 8) = x := ⟨_, rfl⟩;rw [eM5] at HW;have hcl : ((l.drop o).take i).length = nb := (by rw [List.length_take]; omega);have hblk : M5 = L ++ df.blk 1 ((l.drop o).take i) := by
        rw [<- eM5, <- EM4.out, <- EM3.out, <- EM2.out, <- HXM.out];unfold df.blk;rw [hcl];simp only [List.append_assoc]
       have hM5 : M5.length = L.length + (40 + 8 * nb) := (by rw [hblk, List.length_append, df.blk_length, hcl]);have HBK := hd_ hblk;clear hblk hcl eM5 hlt;go_wp2_with fail
       all_goals
        go_roundg (m - nb)
        case measure =>
         have h0 := Hg.out;have hnb := HNB.out
         first | omega | (simp at h0; omega)
        case rel =>
         have hnb := HNB.out;refine ⟨false, o + nb, m - nb, _, _, M5, v2, by omega, rfl, rfl, rfl, .inl (by omega), ?_, by omega, ?_, fun h => ?_, fun _ => by omega, HW.out, HF.out⟩
         ·rw [HBK.out, List.take_of_length_le (by omega), <- df.sto_last (by omega)]
          unfold df.rest;rw [if_neg (by rw [List.length_drop, HL.out]; simp; omega), List.append_nil];exact HR.out
         ·have := HLM.out (by first | exact .inl rfl | exact .inl trivial | exact .inr (by omega))
          omega
         ·exfalso
          rcases h with h | h
          ·cases h
          ·omega
   ·obtain ⟨nb, hnb⟩ : ∃ nb, 65535 = nb := ⟨_, rfl⟩
    have HNB := hd_ hnb.symm;have hnm : nb <= m := (by omega);have hn6 : nb <= 65535 := (by omega);have hl3 : min (m : Int) 65535 = (nb : Int) := (by omega);have hq : ((nb : Int) == (m : Int)) = false := (by simp; omega);have e1 : IntKind.u32.wrap (nb : Int) = (nb : Int) := (by rw [IntKind.wrap_u32]; omega);have e2 : bits .xor .u32 (nb : Int) 65535 = ((nb ^^^ 65535 : Nat) : Int) := df.xor_u32 nb hn6;have hx3 : nb ^^^ 65535 < 65536 := Nat.xor_lt_two_pow (n := 16) (by omega) (by decide);obtain ⟨xm, hxm⟩ : ∃ xm, nb ^^^ 65535 = xm := ⟨_, rfl⟩;rw [hxm] at e2 hx3;have HXM := hd_ hxm;clear hxm;clear hnb;have hnc : (nb : Int) <= (c : Int) := (by omega);have hnc2 : nb <= c := (by omega);cases fst <;> simp only [Bool.false_eq_true, false_or, true_or] at hm0 hgo
    all_goals
     go_upto_region 9 with (fail)
     have CP := hd_ (put_any HW.out (Nat.le_trans HSZ.out HF.out.below.size) 0 3 (by omega) (by decide) (by have := HLN.out; omega));go_wp2_with fail
     refine CP.out.mono ?_;rintro e w3 ⟨rfl, vq, hw4, hf4⟩;have HF := hd_ (HF.out.trans hf4);have HW := hd_ hw4;obtain ⟨M1, eM1⟩ : ∃ x, L ++ bt.bitsOf false 0 3 = x := ⟨_, rfl⟩;rw [eM1] at HW;have HLN : Hid (M1.length <= 1099511627776 - 700000 + 3) := hd_ (by have := HLN.out; rw [<- eM1, List.length_append, bt.bitsOf_length]; omega);have EM1 := hd_ eM1;clear hw4 hf4 CP eM1;have CA := hd_ (align_any HW.out (by have := HLN.out; omega));go_wp2_with fail
     refine CA.out.mono ?_;rintro e w4 ⟨rfl, vq2, hw4, hf4⟩;have HF := hd_ (HF.out.trans hf4);rw [<- EM1.out, df.pad3 L hL8] at hw4;obtain ⟨M2, eM2⟩ : ∃ x, L ++ (bt.bitsOf false 0 3 ++ List.replicate 5 false) = x := ⟨_, rfl⟩;have HLN : Hid (M2.length <= 1099511627776 - 700000 + 8) := hd_ (by have := HL0.out; rw [<- eM2, List.length_append, List.length_append, bt.bitsOf_length, List.length_replicate]; omega);rw [eM2] at hw4;have HW := hd_ hw4;have EM2 := hd_ eM2;clear hw4 hf4 CA eM2;have CP := hd_ (put_any HW.out (Nat.le_trans HSZ.out HF.out.below.size) nb 16 (by omega) (by decide) (by have := HLN.out; omega));go_wp2_with fail
     refine CP.out.mono ?_;rintro e w5 ⟨rfl, vq, hw4, hf4⟩;have HF := hd_ (HF.out.trans hf4);have HW := hd_ hw4;obtain ⟨M3, eM3⟩ : ∃ x, M2 ++ bt.bitsOf false nb 16 = x := ⟨_, rfl⟩;rw [eM3] at HW;have HLN : Hid (M3.length <= 1099511627776 - 700000 + 40) := hd_ (by have := HLN.out; rw [<- eM3, List.length_append, bt.bitsOf_length]; omega);have EM3 := hd_ eM3;clear hw4 hf4 CP eM3;have CP := hd_ (put_any HW.out (Nat.le_trans HSZ.out HF.out.below.size) xm 16 (by omega) (by decide) (by have := HLN.out; omega));go_wp2_with fail
     refine CP.out.mono ?_;rintro e w6 ⟨rfl, vq, hw4, hf4⟩;have HF := hd_ (HF.out.trans hf4);have HW := hd_ hw4;obtain ⟨M4, eM4⟩ : ∃ x, M3 ++ bt.bitsOf false xm 16 = x := ⟨_, rfl⟩;rw [eM4] at HW;have HLN : Hid (M4.length <= 1099511627776 - 700000 + 60) := hd_ (by have := HLN.out; rw [<- eM4, List.length_append, bt.bitsOf_length]; omega);have EM4 := hd_ eM4;clear hw4 hf4 CP eM4;go_wp2_with fail
     go_loopg [41] nb (fun gk2 s41 wq => ∃ (i : Nat) (v2 : Value), i <= nb /\ gk2 = nb - i /\ s41 = .int .i64 (i : Nat) /\ bt.Wr w.heap.size wq g false (M4 ++ ((l.drop o).take i).flatMap fun x => bt.bitsOf false x.toNat 8) v2 /\ bt.Fr w.heap.size g w1 wq)
     case atStart => exact ⟨0, _, Nat.zero_le _, rfl, by go_num, by simpa using HW.out, HF.out⟩
     case round =>
      obtain ⟨i, v2, hi, hgk, rfl, hwr, hfr⟩ := hrel;have Hg2 := hd_ hgk;have HW := hd_ hwr;have HF := hd_ hfr;clear hgk hwr hfr;by_cases hlt : i < nb
      ·have hm1 : 0 < m := by omega
       have hs1 := (HSL.out.resolve_left (by omega)).below (HB1.out.trans HF.out.below);obtain ⟨bb, bo, rfl, hcl⟩ := hs1.cells hm1;have c0 := hcl i (by omega);have hby := HBY.out ((l.drop o).getD i 0) (List.mem_of_mem_drop (i := o) (getD_memI (by omega)));have htk : (l.drop o).take (i + 1) = (l.drop o).take i ++ [(l.drop o).getD i 0] := take_snocI (by omega);obtain ⟨x, hx⟩ := Int.eq_ofNat_of_zero_le hby.1;have hx2 : x < 256 := (by omega);rw [hx] at c0 htk;have HTK := hd_ htk;have e1 : IntKind.u32.wrap (x : Int) = (x : Int) := (by rw [IntKind.wrap_u32]; omega);have CP := hd_ (put_any HW.out (Nat.le_trans HSZ.out HF.out.below.size) x 8 (by omega) (by decide) (by have := HLN.out; rw [List.length_append, df.bytes8_length, List.length_take]; omega));have hin : (i : Int) < (nb : Int) := (by omega);clear hs1 hcl hby htk hx;go_wp2_with fail
       refine CP.out.mono ?_;rintro e w7 ⟨rfl, vq3, hw4, hf4⟩;have HF := hd_ (HF.out.trans hf4);rw [List.append_assoc] at hw4;have HW := hd_ hw4;clear hw4 hf4 CP c0;go_wp2_with fail
       go_roundg (nb - (i + 1))
       case measure => have := Hg2.out; omega
       case rel =>
        refine ⟨i + 1, vq3, by omega, rfl, by go_num, ?_, HF.out⟩;rw [HTK.out, List.flatMap_append, List.flatMap_singleton];exact HW.out
      ·have hie : i = nb := by omega
       have hnlt : ¬ (i : Int) < (nb : Int) := (by omega);have hnlt2 : ¬ i < nb := (by omega);obtain ⟨M5, eM5⟩ : ∃ x, M4 ++ ((l.drop o).take i).flatMap (fun x => bt.bitsOf false x.toNat 8) = x := ⟨_, rfl⟩;rw [eM5] at HW;have hcl : ((l.drop o).take i).length = nb := (by rw [List.length_take]; omega);have hblk : M5 = L ++ df.blk 0 ((l.drop o).take i) := by
        rw [<- eM5, <- EM4.out, <- EM3.out, <- EM2.out, <- HXM.out];unfold df.blk;rw [hcl];simp only [List.append_assoc]
       have hM5 : M5.length = L.length + (40 + 8 * nb) := (by rw [hblk, List.length_append, df.blk_length, hcl]);have HBK := hd_ hblk;clear hblk hcl eM5 hlt;go_wp2_with fail
       all_goals
        go_roundg (m - nb)
        case measure =>
         have h0 := Hg.out;have hnb := HNB.out
         first | omega | (simp at h0; omega)
        case rel =>
         have hnb := HNB.out;have hLM := HLM.out (.inr (by omega));refine ⟨false, o + nb, m - nb, _, _, M5, v2, by omega, rfl, by go_num, rfl, .inr ?_, ?_, by omega, by omega, fun _ => by omega, fun _ => by omega, HW.out, HF.out⟩
         ·have hs1 := HSL.out.resolve_left (by omega)
          obtain ⟨bb, bo, rfl, _⟩ := hs1.cells (by omega);rw [<- List.drop_drop];have h3 : (Option.map (fun x : Addr => x.add nb) (some ⟨bb, bo, none⟩)) = some ⟨bb, bo + nb, none⟩ := (by rw [Option.map_some, Addr.add_mid]);rw [h3];exact hs1.drop (by omega)
         ·rw [HBK.out, hie, HNB.out, List.append_assoc]
          unfold df.rest;rw [if_pos (.inr (by rw [List.length_drop, HL.out]; omega)), <- List.drop_drop, <- df.sto_more (by omega)];exact HR.out
  ·obtain rfl : m = 0 := by omega
   obtain rfl : fst = false := (by cases fst <;> simp at hgo ⊢);have hsto : L = df.sto l := by
    have h1 := HR.out;unfold df.rest at h1
    rwa [hdl, if_neg (by simp), List.append_nil] at h1
   have CB := hd_ (wbytes_any HW.out (by omega) (HLF.out rfl));rw [hsto] at CB;have HFB : Hid (Below w.heap.size w wr) := hd_ (HB1.out.trans HF.out.below);clear hsto hgo hL8 hL9;go_wp2_with fail
   refine CB.out.mono ?_;rintro e w8 ⟨v8, rfl, hf8, hb8⟩;have HB8 := hd_ (HFB.out.trans (hb8.mono HFB.out.size));have HF8 : Hid (Fresh .u8 5 w.heap.size w8 v8 (((df.sto l).length + 7) / 8) (bt.bytes false (df.sto l))) := hd_ (by
    obtain ⟨b8, c8, e8, h81, h82⟩ := hf8;exact ⟨b8, c8, e8, Nat.le_trans HFB.out.size h81, World.ownsRow.mono h82 HFB.out.size⟩)
   clear hf8 hb8 CB;go_wp2_with fail
   go_ret
   exact ⟨v8, rfl, HF8.out, HB8.out⟩
end Go.Proofs.YthpckmcgbmfmcaaGreatDoor
