/- Texts of this claim, joined. -/
import Derived.Test.YthpckmcgbmfmcaaGreatDoorM10
set_option maxRecDepth 100000
set_option maxHeartbeats 12800000
namespace Go.Proofs.YthpckmcgbmfmcaaGreatDoor
open Go.RowKit Go.Sort Go.Shelf
attribute [local go_sem] Oper.semAt_some
theorem grownBy_trans2 {a b c : World} {row row2 : Option Nat} (h : a.grownBy b row) (k : b.grownBy c row2) (hk : ∀ j, row2 = some j -> row = some j \/ a.heap.size <= j) : a.grownBy c row :=
 ⟨k.os.trans h.os, k.tape.trans h.tape, k.output.trans h.output, Nat.le_trans h.size k.size, fun i hi hne => (k.block i (Nat.lt_of_lt_of_le hi h.size) (fun e => by
  rcases hk i e.symm with h1 | h1
  ·exact hne h1.symm
  ·omega)).trans (h.block i hi hne)⟩
def FlPost (w0 : World) (base : Nat) (fix : List (Nat × Array Value × TypeId)) (ob lb : Nat) (dec : List Int) (W : World) (e : Ending) (W' : World) : Prop :=
 (∃ v, e = .returned v) /\ ∃ out, pk.Pk out dec /\ PkI w0 base fix ob lb out [] W' /\ KeepsOthers W W'
theorem flush_any (w0 : World) (base : Nat) (fix : List (Nat × Array Value × TypeId)) (ob lb : Nat) (hA : PkAt w0 base fix ob lb) (out dec loose : List Int) (W : World) (h : PkI w0 base fix ob lb out loose W) (hp : pk.Pk out dec) (hby : sm.Bytes (dec ++ loose)) (hlen : (dec ++ loose).length <= 4398046511104) :
  Calls Tryz.prog 34 #[.pointer (some ⟨lb, 0, none⟩), .pointer (some ⟨ob, 0, none⟩)] W (FlPost w0 base fix ob lb (dec ++ loose) W) := by
 have HA := hd_ hA;have HI := hd_ h;have HP := hd_ hp;obtain ⟨T, hT⟩ : ∃ z, dec ++ loose = z := ⟨_, rfl⟩;rw [hT] at hby hlen ⊢;have HBY := hd_ hby;have HTE := hd_ hT;have HLN := hd_ hlen;clear hA h hp hby hT hlen;go_enter Tryz.func34, Tryz.ntmps34
 go_wp2_with fail
 go_loopg [] loose.length (fun gk wr => ∃ (o1 d1 l1 : List Int), gk = l1.length /\ pk.Pk o1 d1 /\ d1 ++ l1 = T /\ PkI w0 base fix ob lb o1 l1 wr /\ KeepsOthers W wr)
 case atStart => exact ⟨out, dec, loose, rfl, HP.out, HTE.out, HI.out, KeepsOthers.refl _⟩
 case round =>
  obtain ⟨o1, d1, l1, hgk, hp1, hd1, hi1, hk1⟩ := hrel;have Hg := hd_ hgk;have HP1 := hd_ hp1;have HD1 := hd_ hd1;have HI1 := hd_ hi1;have HK1 := hd_ hk1;obtain ⟨vo, vl, hob, hlb, hown, hls, hap⟩ := hi1.rows;clear hgk hp1 hd1 hi1 hk1 HI HP;have HOB := hd_ hob;have HLB := hd_ hlb;have HOW := hd_ hown;have HLS := hd_ hls;have HAP := hd_ hap;clear hob hlb hown hap;by_cases hl0 : l1 = []
  ·subst hl0
   obtain ⟨al, cl, rfl, _, _⟩ := hls.form;have k0 := (cr_ wr 0 HLB.out (Value.slice al 0 cl) rfl);clear hls;go_wp2_with fail
   refine bodyPost_end (results_none rfl _ _ _) rfl ?_;have hd := HD1.out;rw [List.append_nil] at hd;exact ⟨⟨_, rfl⟩, o1, by rw [<- hd]; exact HP1.out, HI1.out, HK1.out⟩
  ·have hlp := List.length_pos_iff.2 hl0
   rcases hls with ⟨_, h0⟩ | ⟨g, o, cap, cur, rfl, hg1, hg2, hg3, hg4, hg5, hg6⟩
   ·exact absurd h0 hl0
   obtain ⟨ao, oc, rfl, _, _, _⟩ := own_slice' HOW.out;have hbl1 : sm.Bytes l1 := fun z hz => HBY.out z (by rw [<- HD1.out]; exact List.mem_append.2 (.inr hz))
   have hTl : d1.length + l1.length <= 4398046511104 := (by have := HLN.out; rw [<- HD1.out, List.length_append] at this; exact this);have hol : o1.length <= 2 * d1.length := HP1.out.len;have hsl := HLS.out.sl hbl1;obtain ⟨ol, hol'⟩ : ∃ z, o1.length = z := ⟨_, rfl⟩;obtain ⟨nn, hnn⟩ : ∃ z, l1.length = z := ⟨_, rfl⟩;rw [hol'] at hol HOB HOW HAP;rw [hnn] at hlp hTl hsl HLB HLS HAP hg3 hg6 Hg;obtain ⟨m, hm⟩ : ∃ z, min nn 128 = z := ⟨_, rfl⟩;have hm0 : 1 <= m /\ m <= nn /\ m <= 128 := (by omega);obtain ⟨m1, hm1⟩ : ∃ z, m - 1 = z := ⟨_, rfl⟩;have hmn : (if (128 : Int) < (nn : Int) then (128 : Int) else (nn : Int)) = (m : Int) := (by split <;> omega);have hn0 : (0 : Int) < (nn : Int) := (by omega);have k0 := (cr_ wr 0 HLB.out (Value.slice (some ⟨g, o, none⟩) nn cap) rfl);have k1 := (cr_ wr 0 HOB.out (Value.slice ao ol oc) rfl);have HM := hd_ (And.intro hm0 (And.intro hm hm1));have HOL := hd_ hol';have HNN := hd_ hnn;have HW1 : Hid (IntKind.i64.wrap ((m : Int) - 1) = (m1 : Int)) := hd_ (i64o (by omega) (by omega));have HW2 : Hid (IntKind.u8.wrap (m1 : Int) = (m1 : Int)) := hd_ (by rw [IntKind.wrap]; simp [IntKind.bits, IntKind.signed]; omega);have HMC : Hid ((m : Int) <= (cap : Int)) := hd_ (by omega);obtain ⟨wD, hwD⟩ : ∃ z, wr.drew = z := ⟨_, rfl⟩;have hbD : Below wr.heap.size wr wD := (by rw [<- hwD]; exact (Below.refl _ _).drew);obtain ⟨wA, hwA⟩ : ∃ z, wD.alloc (.cells #[.int .u8 (m1 : Nat)] 5) = z := ⟨_, rfl⟩;obtain ⟨wsz, hwsz⟩ : ∃ z, wD.heap.size = z := ⟨_, rfl⟩;have hbA : Below wr.heap.size wr wA := hbD.trans (by rw [<- hwA]; exact ((Below.refl _ _).alloc (Nat.le_refl _) _).mono hbD.size);have hbym : sm.Bytes [(m1 : Int)] := fun z hz => by rw [List.mem_singleton.1 hz]; omega
   have hs1 : Sl .u8 wA (some ⟨wsz, 0, none⟩) 1 1 [(m1 : Int)] := by
    rw [<- hwA];exact sl_bytes wD [(m1 : Int)] _ _ _ hwsz (by unfold maxLen; simp) (wf_of_bytes hbym)
   have hoA := ownsRow_below HOW.out hbA;have hszA : base <= wA.heap.size := Nat.le_trans HI1.out.size hbA.size;obtain ⟨v1, w2, hr1, ⟨⟨ho2, hg2'⟩, hat1⟩⟩ := run_append_sl_at wA 22 base _ _ o1 hoA ⟨wsz, 0, none⟩ 1 1 [(m1 : Int)] hs1 (by omega) hszA;obtain ⟨vb, vc, rfl, _⟩ := own_form ho2 (by omega);obtain ⟨q1, hq1⟩ : ∃ z, ol + 1 = z := ⟨_, rfl⟩;rw [hq1] at ho2 hr1 hat1;have hls2 : OwnS base w2 (.slice (some ⟨g, o, none⟩) nn cap) l1 := (HLS.out.below hbA).kept hg2' HAP.out;have hsl2 := (hls2.sl hbl1).take (m := m) hm0.2.1;have hsz2 : base <= w2.heap.size := Nat.le_trans hszA hg2'.size;obtain ⟨v2, w3, hr2, ⟨⟨ho3, hg3'⟩, hat2⟩⟩ := run_append_sl_at w2 22 base _ _ (o1 ++ [(m1 : Int)]) ho2 ⟨g, o, none⟩ m cap (l1.take m) hsl2 (by omega) hsz2;obtain ⟨ub, uc, rfl, _⟩ := own_form ho3 (by omega);obtain ⟨q2, hq2⟩ : ∃ z, q1 + m = z := ⟨_, rfl⟩;rw [hq2] at ho3 hr2 hat2;have HR1 := hd_ hr1;have HR2 := hd_ hr2;have hg13 : wr.grownBy w3 (Value.slice ao ol oc).ownBlock := by
    have e1 := (grown_any (row := (Value.slice ao ol oc).ownBlock) (grown_of_below hbA)).trans hg2';refine grownBy_trans2 e1 hg3' fun k hk => ?_
    rcases hat1 with hat1 | hat1
    ·exact .inl (hat1 ▸ hk)
    ·exact .inr (by have := hat1.symm.trans hk; have := Option.some.inj this; have := hbA.size; omega)
   have hat3 : (Value.slice (some ⟨ub, 0, none⟩) q2 uc).ownBlock = (Value.slice ao ol oc).ownBlock \/ ∃ k, (Value.slice (some ⟨ub, 0, none⟩) q2 uc).ownBlock = some k /\ wr.heap.size <= k := by
    have h1 := hbA.size;have h2 := hg2'.size;rcases hat2 with hat2 | hat2
    ·rcases hat1 with hat1 | hat1
     ·exact .inl (hat2.trans hat1)
     ·exact .inr ⟨_, hat2.trans hat1, h1⟩
    ·exact .inr ⟨_, hat2, by omega⟩
   have ho3' : w3.ownsRow base 5 1 (.slice (some ⟨ub, 0, none⟩) q2 uc) (o1 ++ ((m1 : Nat) : Int) :: l1.take m).length ((o1 ++ ((m1 : Nat) : Int) :: l1.take m).map (Value.int .u8)) := by
    have e : o1 ++ [(m1 : Int)] ++ l1.take m = o1 ++ ((m1 : Nat) : Int) :: l1.take m := (by rw [List.append_assoc]; rfl);rw [e] at ho3;have e2 : q2 = (o1 ++ ((m1 : Nat) : Int) :: l1.take m).length := by
     rw [List.length_append, List.length_cons, List.length_take, HOL.out, HNN.out];omega
    rw [<- e2];exact ho3
   have HL4 : Hid ((w3.setCell ⟨ob, 0, none⟩ (.slice (some ⟨ub, 0, none⟩) q2 uc)).heap[lb]? = some (.cells #[.slice (some ⟨g, o, none⟩) nn cap] 22 (0, 0))) := hd_ (grown_block (grownBy_setCell3 w3 ob 0 (.slice (some ⟨ub, 0, none⟩) q2 uc)) (grown_block hg13 HLB.out (fun e => own_ne HOW.out HLB.out (by decide) e)) (fun e => HA.out.ne (Option.some.inj e).symm));have HPO := hd_ (HI1.out.putOut HA.out HOB.out HLB.out hg13 ho3' hat3);have HGF : Hid (∀ b1 b2 u, u = (if b2 = true then w2 else if b1 = true then wA else wD) -> u.cell? ⟨ob, 0, none⟩ = some (.slice ao ol oc) /\ u.cell? ⟨lb, 0, none⟩ = some (.slice (some ⟨g, o, none⟩) nn cap)) := hd_ (by
    intro b1 b2 u hu;have hA2 : ∀ (j : Nat) (c : Value), wr.heap[j]? = some (Obj.cells #[c] 22 (0, 0)) -> w2.heap[j]? = some (Obj.cells #[c] 22 (0, 0)) := fun j c hj =>
     grown_block hg2' ((hbA.block _ (block_lt hj)).trans hj) (fun e => own_ne hoA ((hbA.block _ (block_lt hj)).trans hj) (by decide) e)
    subst hu;cases b2
    ·cases b1
     ·exact ⟨keep_cell hbD k1, keep_cell hbD k0⟩
     ·exact ⟨keep_cell hbA k1, keep_cell hbA k0⟩
    ·exact ⟨(cell_of_row _ _ 0 _ _ (0, 0) (hA2 _ _ HOB.out)).trans rfl, (cell_of_row _ _ 0 _ _ (0, 0) (hA2 _ _ HLB.out)).trans rfl⟩)
   have HWD := hd_ hwD;have HWA := hd_ hwA;have HWS := hd_ hwsz;clear hq1 hq2 hsl hg1 hg2 hg6 hol hol' hnn hm hm1 hbD hbA hbym hs1 hoA hszA hr1 ho2 hg2' hat1 hls2 hsl2 hsz2 hr2 ho3 hg3' hat2 hg13 hat3 ho3' hwD hwA hwsz;go_upto_region 2 with (fail)
   clear k0 k1 hmn hn0;refine wp_region_two (D := fun i => ([9, 10, 11, 12, 13, 14, 15, 16, 17] : List Nat).getD i 0) 9 4 5 (fun i => match i with
     | 0 => .slice ao ol oc
     | 1 => .int .i64 (m : Nat)
     | 2 => .int .i64 (m1 : Nat)
     | 3 => .int .u8 (m1 : Nat)
     | 4 => .slice (some ⟨wsz, 0, none⟩) 1 1
     | 5 => .slice (some ⟨vb, 0, none⟩) q1 vc
     | 6 => .slice (some ⟨g, o, none⟩) nn cap
     | 7 => .int .i64 (m : Nat)
     | 8 => .slice (some ⟨g, o, none⟩) m cap
     | _ => undef) (fun b1 b2 u => u = (if b2 = true then w2 else if b1 = true then wA else wD)) (fun a => a.tmps[0]? = some (.pointer (some ⟨lb, 0, none⟩)) /\ a.tmps[1]? = some (.pointer (some ⟨ob, 0, none⟩)) /\ a.tmps[2]? = some (.int .i64 (m : Nat)))
    (by decide) (by decide) (by decide) (by kernel_rfl) (by decide +kernel) (by kernel_rfl) (by decide +kernel) (by decide +kernel) (by decide +kernel) (by decide +kernel) (by kernel_rfl) HWD.out ?_ ?_ ?_
   ·intro a' hold
    exact ⟨hold 0 (by decide), hold 1 (by decide), hold 2 (by decide)⟩
   ·refine ⟨?_, ?_, ?_, ?_, ?_, ?_, ?_, ?_, ?_, trivial⟩
    ·intro a' u b1 b2 hq1 hq2 hq12 hG hS hd
     have g0 := hS.2.1;have g1 := (HGF.out b1 b2 u hG).1;clear hd hq12;have HG := hd_ hG;clear hG;dsimp only at *;go_simp
     all_goals exact HG.out
    ·intro a' u b1 b2 hq1 hq2 hq12 hG hS hd
     have g0 := hS.2.2;clear hd hq12;have HG := hd_ hG;clear hG;dsimp only at *;go_simp
     all_goals exact HG.out
    ·intro a' u b1 b2 hq1 hq2 hq12 hG hS hd
     have f1 : a'.tmps[10]? = some _ := hd 1 (by kernel_rfl);clear hd hq12;have HG := hd_ hG;clear hG;have y1 := HW1.out;dsimp only at *;go_simp
     all_goals exact HG.out
    ·intro a' u b1 b2 hq1 hq2 hq12 hG hS hd
     have f2 : a'.tmps[11]? = some _ := hd 2 (by kernel_rfl);clear hd hq12;have HG := hd_ hG;clear hG;have y1 := HW2.out;dsimp only at *;go_simp
     all_goals exact HG.out
    ·intro a' u b1 b2 hq1 hq2 hq12 hG hS hd
     have f3 : a'.tmps[12]? = some _ := hd 3 (by kernel_rfl);clear hd hq12;obtain ⟨rfl, rfl⟩ := hq1 rfl;have hG2 : u = wD := hG;subst hG2;clear hG;dsimp only at *;go_simp
     exact ⟨by rw [HWS.out], HWA.out⟩
    ·intro a' u b1 b2 hq1 hq2 hq12 hG hS hd
     have f0 : a'.tmps[9]? = some _ := hd 0 (by kernel_rfl);have f4 : a'.tmps[13]? = some _ := hd 4 (by kernel_rfl);clear hd hq12;obtain ⟨rfl, rfl⟩ := hq2 rfl;have hG2 : u = wA := hG;subst hG2;clear hG;have e0 : a'.eval (.tmp 9) = .slice ao ol oc := (by simp [Act.eval, f0]);have e1 : a'.eval (.tmp 13) = .slice (some ⟨wsz, 0, none⟩) 1 1 := (by simp [Act.eval, f4]);refine wp_of_append (.tmp 9) (.tmp 13) 22 22 rfl (Φ := fun a b => a = .slice (some ⟨vb, 0, none⟩) q1 vc /\ b = w2) ⟨_, w2, by rw [e0, e1]; exact HR1.out, rfl, rfl⟩ ?_;rintro _ _ ⟨rfl, rfl⟩;exact ⟨rfl, rfl⟩
    ·intro a' u b1 b2 hq1 hq2 hq12 hG hS hd
     have g0 := hS.1;have g1 := (HGF.out b1 b2 u hG).2;clear hd hq12;have HG := hd_ hG;clear hG;dsimp only at *;go_simp
     all_goals exact HG.out
    ·intro a' u b1 b2 hq1 hq2 hq12 hG hS hd
     have g0 := hS.2.2;clear hd hq12;have HG := hd_ hG;clear hG;dsimp only at *;go_simp
     all_goals exact HG.out
    ·intro a' u b1 b2 hq1 hq2 hq12 hG hS hd
     have f6 : a'.tmps[15]? = some _ := hd 6 (by kernel_rfl);have f7 : a'.tmps[16]? = some _ := hd 7 (by kernel_rfl);clear hd hq12;have HG := hd_ hG;clear hG;have y1 := HMC.out;dsimp only at *;go_simp
     all_goals exact HG.out
   ·intro a' u h
    have e14 : a'.tmps[14]? = some (.slice (some ⟨vb, 0, none⟩) q1 vc) := h.new 5 (by decide) (by decide +kernel);have e17 : a'.tmps[17]? = some (.slice (some ⟨g, o, none⟩) m cap) := h.new 8 (by decide) (by decide +kernel);have htm := tmps_set h.size [9, 10, 11, 12, 13, 14, 15, 16, 17] (fun d hd => h.old d (fun i hi e => hd (by rw [<- e]; exact mem_getD (by show i < 9; exact hi))));have hdf := h.defers;have hu : u = w2 := h.world.trans (if_pos (by decide +kernel));rw [hu];clear h hu;obtain ⟨fx, hf⟩ : ∃ f : Nat -> Value, (fun i => a'.tmps.getD i undef) = f := ⟨_, rfl⟩;replace e14 : (fun i => a'.tmps.getD i undef) 14 = _ := slot_of e14;replace e17 : (fun i => a'.tmps.getD i undef) 17 = _ := slot_of e17;have hff : ∀ i, a'.tmps.getD i undef = fx i := fun i => congrFun hf i
    simp only [hff] at e14 e17;simp only [List.foldl_cons, List.foldl_nil, hff] at htm;obtain ⟨tmps, defers⟩ := a';dsimp only at hdf htm;subst hdf;rw [htm, e14, e17];clear htm hf hff e14 e17 HGF HWD HWA HWS HR1;simp only [List.setIfInBounds_toArray, List.set_cons_succ, List.set_cons_zero];have c1 := (cr_ w3 0 HPO.out.1 (Value.slice ao ol oc) rfl);have z1 := frozen_of_row w3 ob 0 _ _ HPO.out.1;refine wpList_of_append rfl (.tmp 14) (.tmp 17) 22 22 rfl (Φ := fun a b => a = .slice (some ⟨ub, 0, none⟩) q2 uc /\ b = w3) ⟨_, w3, HR2.out, rfl, rfl⟩ ?_;rintro v9 w9 ⟨h9, h9'⟩;rw [h9, h9'];clear h9 h9';go_upto_region 3 with (fail)
    obtain ⟨w4, hw4⟩ : ∃ z, w3.setCell ⟨ob, 0, none⟩ (.slice (some ⟨ub, 0, none⟩) q2 uc) = z := ⟨_, rfl⟩;rw [hw4] at HPO HL4 ⊢;clear hw4 c1 z1;have hls4 : OwnS base w4 (.slice (some ⟨g, o, none⟩) nn cap) l1 := by
     obtain ⟨vo', vl', _, h2, _, h4, _⟩ := HPO.out.2.1.rows;rw [HL4.out] at h2;cases h2;exact h4
    have ho4 : ∃ vo, w4.heap[ob]? = some (.cells #[vo] 22 (0, 0)) := by
     obtain ⟨vo', _, h1, _⟩ := HPO.out.2.1.rows;exact ⟨vo', h1⟩
    obtain ⟨vo4, hvo4⟩ := ho4;have HVO4 := hd_ hvo4;have HLS4 := hd_ hls4;clear hls4 hvo4;have k4 := (cr_ w4 0 HL4.out (Value.slice (some ⟨g, o, none⟩) nn cap) rfl);have z4 := frozen_of_row w4 lb 0 _ _ HL4.out;have g1 : (m : Int) <= (nn : Int) := (by omega);have g2 : (m : Int) <= (cap : Int) := (by omega);have hrel : ∀ v', OwnS base w4 v' (l1.drop m) -> v'.ownBlock = some g -> (∃ (oo dd ll : List Int), ll.length = nn - m /\ pk.Pk oo dd /\ dd ++ ll = T /\ PkI w0 base fix ob lb oo ll (w4.setCell ⟨lb, 0, none⟩ v') /\ KeepsOthers W (w4.setCell ⟨lb, 0, none⟩ v')) := by
     intro v' hv hvb;obtain ⟨_, hP, hK⟩ := HPO.out.2.1.putLoose HA.out HVO4.out HL4.out (World.grownBy.refl _ _) hv (.inl hvb);have htl : (l1.take m).length = m := (by rw [List.length_take, HNN.out]; have := HM.out.1; omega);have hsn := HP1.out.snocLit (l1.take m) (by rw [htl]; exact HM.out.1.1) (by rw [htl]; exact HM.out.1.2.2);rw [htl, HM.out.2.2] at hsn;refine ⟨_, _, _, by rw [List.length_drop, HNN.out], hsn, ?_, hP, (HK1.out.trans HPO.out.2.2).trans hK⟩;rw [List.append_assoc, List.take_append_drop];exact HD1.out
    have HREL := hd_ hrel;clear hrel;by_cases hcm : cap = m
    ·have hnm : nn - m = 0 := by omega
     subst hcm;have HNM := hd_ hnm;go_wp2_with fail
     have hd0 : l1.drop cap = [] := List.drop_eq_nil_of_le (by rw [HNN.out]; have := HNM.out; omega);obtain ⟨oo, dd, ll, r1, r2, r3, r4, r5⟩ := HREL.out (.slice (some ⟨g, o, none⟩) 0 0) (by rw [hd0]; exact HLS4.out.empty o (Nat.le_add_right _ _)) rfl;go_roundg ll.length
     case measure => have := Hg.out; have := HM.out; omega
     case rel => exact ⟨oo, dd, ll, rfl, r2, r3, r4, r5⟩
    ·have hcm2 : ¬ (m = cap) := fun e => hcm e.symm
     go_wp2_with fail
     have hls5 := HLS4.out;rw [<- HNN.out] at hls5;have hd5 := hls5.drop (k := m) (by rw [HNN.out]; exact HM.out.1.2.1);rw [HNN.out] at hd5;obtain ⟨oo, dd, ll, r1, r2, r3, r4, r5⟩ := HREL.out _ hd5 rfl;go_roundg ll.length
     case measure => have := Hg.out; have := HM.out; omega
     case rel => exact ⟨oo, dd, ll, rfl, r2, r3, r4, r5⟩
end Go.Proofs.YthpckmcgbmfmcaaGreatDoor
