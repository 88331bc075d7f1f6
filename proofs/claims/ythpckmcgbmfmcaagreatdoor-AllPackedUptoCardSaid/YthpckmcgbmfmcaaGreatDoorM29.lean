/- Texts of this claim, joined. -/
import Derived.Test.YthpckmcgbmfmcaaGreatDoorM28
set_option maxRecDepth 100000
set_option maxHeartbeats 12800000
namespace Go.Proofs.YthpckmcgbmfmcaaGreatDoor
open Go.RowKit Go.Sort pb
namespace pb
def wt (ls : List Nat) (s : Nat) : Nat := ls.getD s 0
def U (ls : List Nat) (i : Nat) : List Nat := (List.range i).filter fun s => decide (0 < wt ls s)
theorem U_in {ls : List Nat} {i : Nat} (h : 0 < wt ls i) : U ls (i + 1) = U ls i ++ [i] := by
 unfold U;rw [List.range_succ, List.filter_append];simp [h]
theorem U_out {ls : List Nat} {i : Nat} (h : ¬ 0 < wt ls i) : U ls (i + 1) = U ls i := by
 unfold U;rw [List.range_succ, List.filter_append];simp [h]
theorem U_le (ls : List Nat) (i : Nat) : (U ls i).length <= i := by
 have := List.length_filter_le (fun s => decide (0 < wt ls s)) (List.range i);rw [List.length_range] at this;exact this
theorem U_le_of {ls : List Nat} {i t : Nat} (h : (U ls i).length = t) : t <= i := by rw [<- h]; exact U_le ls i
end pb
def BuildPost (ls : List Nat) (n most : Nat) (w : World) (e : Ending) (w' : World) : Prop :=
 ∃ b c os, e = .returned (.tuple #[.slice (some ⟨b, 0, none⟩) n c, .int .i64 0]) /\ w.heap.size <= b /\ In w' b n c os /\ os.length = n /\ pf.Ok os /\ (∀ l ∈ os, l <= most) /\ (∀ s, s < n -> 0 < ls.getD s 0 -> 1 <= os.getD s 0) /\
  (pf.kraft os = 65536 \/ (pf.nz os = 1 /\ pf.one os = true) \/ pf.nz os = 0) /\ Below w.heap.size w w'
theorem build_any (a : Option Addr) (n cap : Nat) (ls : List Nat) (most : Nat) (w : World) (h : Sl .i64 w a n cap (nats ls)) (hn1 : 1 <= n) (hn : n <= 4096) (hle : ∀ x ∈ ls, x <= 1073741824) (hm1 : 1 <= most) (hm2 : most <= 16) (hfit : n <= 2 ^ most) :
  Calls Tryz.prog 108 #[.slice a n cap, .int .i64 (most : Nat)] w (BuildPost ls n most w) := by
 have hl : ls.length = n := by have := h.len; rwa [nats_length] at this
 have CC := hd_ (contains_any a n cap ls w h hle);have HS := hd_ h;have HLE := hd_ hle;have HL := hd_ hl;have HFIT := hd_ hfit;clear h hle hl hfit;go_enter Tryz.func108, Tryz.ntmps108
 go_wp2_with fail
 refine CC.out.mono ?_;rintro e w1 ⟨rfl, rfl⟩;clear CC;go_wp2_with fail
 go_loopg [6, 33] n (fun gk s6 s33 wr => ∃ (i : Nat) (T : List (Cn × pm.Coin)), i <= n /\ gk = n - i /\ s33 = .int .i64 (i : Nat) /\ OwnK w.heap.size wr s6 (T.map (·.1)) /\ pb.All wr T /\ T.map (·.2) = pm.own (pb.wt ls) (pb.U ls i) /\ Below w.heap.size w wr)
 case atStart => exact ⟨0, [], Nat.zero_le _, rfl, by go_num, World.ownsRow_nil _ _ _ _, (fun _ h => by cases h), rfl, Below.refl _ _⟩
 case round =>
  obtain ⟨i, T, hi, hg, rfl, ho, hall, hT, hb⟩ := hrel;have Hg := hd_ hg;have HO := hd_ ho;have HA := hd_ hall;have HT := hd_ hT;have HB := hd_ hb;clear hg ho hall hT hb;by_cases hlt : i < n
  ·obtain ⟨bb, bo, rfl, hce⟩ := (HS.out.below HB.out).cells (by omega)
   have k0 := hce i hlt;rw [nats_get] at k0;have hin : (i : Int) < (n : Int) := (by omega);have hic : ¬ cap = i := (by have := HS.out.fits; omega);have hx30 := HLE.out (ls.getD i 0) (pf.getD_mem (by rw [HL.out]; exact hlt));by_cases hpos : 0 < pb.wt ls i
   ·have HU := hd_ (pb.U_in hpos)
    have hTl : T.length = (pb.U ls i).length := (by have := congrArg List.length HT.out; rwa [List.length_map, pb.own_length] at this);have hUl := pb.U_le ls i;obtain ⟨x, hx⟩ : ∃ x, ls.getD i 0 = x := ⟨_, rfl⟩;have hposx : 0 < x := (by rw [<- hx]; exact hpos);rw [hx] at k0 hx30;have HX := hd_ hx;obtain ⟨tl, htl⟩ : ∃ x, (T.map (·.1)).length = x := ⟨_, rfl⟩;have htl1 : tl <= 4096 := (by rw [<- htl, List.length_map]; omega);have HTL := hd_ htl;have HTLT : Hid (T.length <= 4096) := hd_ (by rw [<- htl, List.length_map] at htl1; exact htl1);obtain ⟨a6, c6, e6⟩ : ∃ a c, u6 = .slice a tl c := by
     obtain ⟨a', c', e', _⟩ := own_slice' HO.out;exact ⟨a', c', by rw [<- htl]; exact e'⟩
    subst e6;have hb1 : Below wr.heap.size wr (wr.alloc (.cells #[.int .i64 (i : Nat)] 3)) := (Below.refl _ _).alloc (Nat.le_refl _) _;have hg1 := heap_alloc_new wr (.cells #[.int .i64 (i : Nat)] 3 (0, 0));have hb2 := hb1.alloc hb1.size (.cells #[.int .i64 (x : Nat), .slice (some ⟨wr.heap.size, 0, none⟩) 1 1] 222);have hg2 := heap_alloc_new (wr.alloc (.cells #[.int .i64 (i : Nat)] 3)) (.cells #[.int .i64 (x : Nat), .slice (some ⟨wr.heap.size, 0, none⟩) 1 1] 222 (0, 0));rw [show (wr.alloc (.cells #[.int .i64 (i : Nat)] 3)).heap.size = wr.heap.size + 1 from Array.size_push _] at hg2;have hg1' := (((Below.refl _ (wr.alloc (.cells #[.int .i64 (i : Nat)] 3))).alloc (Nat.le_refl _) (.cells #[.int .i64 (x : Nat), .slice (some ⟨wr.heap.size, 0, none⟩) 1 1] 222)).block _ (block_lt hg1)).trans hg1;have HG1 := hd_ hg1';have HG2 := hd_ hg2;have HB2 := hd_ hb2;have HO2 := hd_ (HO.out.below hb2);have HSZ := hd_ (Nat.le_trans HB.out.size hb2.size);have HTL2 : Hid ((T.map (·.1)).length <= 1099511627776) := hd_ (by rw [htl]; omega);clear hpos hx htl hce hTl hUl hb1 hg1 hb2 hg2 hg1';go_upto_region 10 with (fail)
    go_wp2_with (at_builtin; go_must (refine wpList_of_append rfl (.tmp 40) (.tmp 45) 220 220 rfl (run_append_k _ _ w.heap.size (.slice a6 tl c6) (T.map (·.1)) ⟨x, some ⟨wr.heap.size, 0, none⟩, 1, 1⟩ HO2.out HTL2.out HSZ.out _ HG2.out) ?_; rintro v9 w9 ⟨ho9, hg9⟩; have HO9 := hd_ ho9; have HG9 := hd_ hg9; clear ho9 hg9))
    go_roundg (n - (i + 1))
    case measure => have := Hg.out; omega
    case rel =>
     have hob := own_coin HO2.out;refine ⟨i + 1, T ++ [(⟨x, some ⟨wr.heap.size, 0, none⟩, 1, 1⟩, ⟨x, [i]⟩)], by omega, rfl, by go_num, ?_, ?_, ?_, ?_⟩
     ·rw [List.map_append]
      exact HO9.out
     ·refine All.append (((HA.out.below HB2.out)).grown HG9.out (fun b e => (hob b e).2.2)) ?_
      intro y hy;obtain rfl := List.mem_singleton.1 hy;have hI : In ((wr.alloc (.cells #[.int .i64 (i : Nat)] 3)).alloc (.cells #[.int .i64 (x : Nat), .slice (some ⟨wr.heap.size, 0, none⟩) 1 1] 222)) wr.heap.size 1 1 [i] := by
       refine ⟨⟨rfl, Nat.le_refl _, by decide, (fun e => by cases e), nats_wf _ (by intro y hy; obtain rfl := List.mem_singleton.1 hy; omega), .inr ⟨wr.heap.size, 0, rfl, fun j hj => ?_⟩⟩, _, HG1.out⟩;obtain rfl : j = 0 := (by have hj' : j < 1 := hj; omega);exact (cell_of_row _ _ 0 _ _ (0, 0) HG1.out).trans rfl
      refine Ck.grown (x := (⟨x, some ⟨wr.heap.size, 0, none⟩, 1, 1⟩, ⟨x, [i]⟩)) ⟨rfl, Nat.le_refl _, wr.heap.size, rfl, hI⟩ HG9.out (fun b e => (hob b e).2.2)
     ·rw [List.map_append, HT.out, HU.out]
      unfold pm.own;rw [List.map_append];show _ ++ [(⟨x, [i]⟩ : pm.Coin)] = _ ++ [⟨pb.wt ls i, [i]⟩];rw [show pb.wt ls i = x from HX.out]
     ·exact (HB.out.trans (HB2.out.mono HB.out.size)).grown HG9.out (Nat.le_trans HB.out.size HB2.out.size) (fun r e => (hob r e).1)
   ·have HU := hd_ (pb.U_out hpos)
    have h0 : ls.getD i 0 = 0 := (by unfold pb.wt at hpos; omega);rw [h0] at k0;clear hpos h0 hce hx30;go_wp2_with fail
    go_roundg (n - (i + 1))
    case measure => have := Hg.out; omega
    case rel => exact ⟨i + 1, T, by omega, rfl, by go_num, HO.out, HA.out, by rw [HU.out]; exact HT.out, HB.out⟩
  ·obtain rfl : i = n := by omega
   clear Hg hlt;have hUn : T.length = (pb.U ls i).length := (by have := congrArg List.length HT.out; rwa [List.length_map, pb.own_length] at this);have hUl := pb.U_le ls i;obtain ⟨tl, htl⟩ : ∃ x, (T.map (·.1)).length = x := ⟨_, rfl⟩;have htT : T.length = tl := (by rw [<- htl, List.length_map]);have htU : (pb.U ls i).length = tl := (by rw [<- hUn]; exact htT);have hti : tl <= i := (by rw [<- htU]; exact hUl);have HTL := hd_ htl;have HTT := hd_ htT;have HTU := hd_ htU;have htm : tl <= 2 ^ most := Nat.le_trans hti HFIT.out;have hp16 : 2 ^ most <= 2 ^ 16 := Nat.pow_le_pow_right (by decide) hm2;obtain ⟨a6, c6, e6⟩ : ∃ a c, u6 = .slice a tl c := by
    obtain ⟨a', c', e', _⟩ := own_slice' HO.out;exact ⟨a', c', by rw [<- htl]; exact e'⟩
   subst e6;have hmk := make_i64 i (by omega) wr;obtain ⟨w4, hw4⟩ : ∃ x, wr.alloc (.cells (fRow .i64 (fun _ => 0) i) 3) = x := ⟨_, rfl⟩;obtain ⟨ob, hob⟩ : ∃ x, wr.heap.size = x := ⟨_, rfl⟩;have hb4 : Below wr.heap.size wr w4 := (by rw [<- hw4]; exact (Below.refl _ _).alloc (Nat.le_refl _) _);have HR4 : Hid (w4.heap[ob]? = some (.cells (fRow .i64 (fun _ => 0) i) 3 (0, 0))) := hd_ (by rw [<- hw4, <- hob]; exact heap_alloc_new _ _);have HB4 := hd_ (HB.out.trans (hb4.mono HB.out.size));have HO4 := hd_ (HO.out.below hb4);have HA4 := hd_ (HA.out.below hb4);have HOB : Hid (w.heap.size <= ob) := hd_ (by rw [<- hob]; exact HB.out.size);have HAP : Hid (∀ x ∈ T, x.1.a ≠ some ⟨ob, 0, none⟩) := hd_ (fun x hx e => by
    obtain ⟨g, e1, h1⟩ := (HA.out x hx).at';rw [e1] at e;obtain ⟨cur, h2⟩ := h1.ty;have h3 := block_lt h2;have h4 : g = ob := congrArg Addr.block (Option.some.inj e);omega)
   rw [hw4, hob] at hmk;clear hw4 hob hb4 HO HA hUn hUl htl htT htU HB;have hmk2 : IntKind.i64.wrap (2 ^ most) = ((2 ^ most : Nat) : Int) := by
    rw [show (2 : Int) ^ most = ((2 ^ most : Nat) : Int) by push_cast; rfl];exact i64i (by omega)
   obtain ⟨pm2, hpm2⟩ : ∃ x, 2 ^ most = x := ⟨_, rfl⟩;rw [hpm2] at hmk2 htm hp16;go_upto_region 13 with (fail)
   clear hmk hpm2;rcases Nat.lt_or_ge tl 2 with hsm | hbig
   ·rcases Nat.eq_zero_or_pos tl with rfl | hpos
    ·go_wp2_with fail
     go_ret2
     refine ⟨ob, i, List.replicate i 0, rfl, HOB.out, rep_of_fRow HR4.out (by simp) (fun j hj => by simp [List.getD_eq_getElem?_getD, hj]) hn (fun x hx => by rw [List.eq_of_mem_replicate hx]; decide), by simp, zero_ok i, (fun l hl => by rw [List.eq_of_mem_replicate hl]; exact Nat.zero_le _), ?_, .inr (.inr (nz_rep i)), HB4.out⟩;intro s hs h0;exfalso;have hm : s ∈ pb.U ls i := List.mem_filter.2 ⟨List.mem_range.2 hs, by simpa [pb.wt] using h0⟩;have h1 := HTU.out;rw [List.length_eq_zero_iff] at h1;rw [h1] at hm;cases hm
    ·obtain rfl : tl = 1 := by omega
     obtain ⟨s, hs⟩ := List.length_eq_one_iff.1 HTU.out;obtain ⟨x, hx⟩ := List.length_eq_one_iff.1 HTT.out;have hsn : s < i /\ 0 < pb.wt ls s := by
      have : s ∈ pb.U ls i := (by rw [hs]; simp);have h2 := List.mem_filter.1 this;exact ⟨List.mem_range.1 h2.1, by simpa using h2.2⟩
     have hxs : x.2 = ⟨pb.wt ls s, [s]⟩ := by
      have h1 := HT.out;rw [hs, hx] at h1;exact List.head_eq_of_cons_eq h1
     have hck := HA4.out x (by rw [hx]; simp);obtain ⟨⟨xw, xa, xn, xc⟩, y⟩ := x;simp only at hxs;subst hxs;obtain ⟨g, hga, hin⟩ := hck.at';simp only at hga hin;subst hga;have hn1 : xn = 1 := hin.len.symm;subst hn1;have c0 := hin.cell (i := 0) (by decide);have c0' : w4.cell? ⟨g, 0, none⟩ = some (.int .i64 (s : Nat)) := c0;obtain ⟨a', c', e', h1', h2', h3'⟩ := own_slice' HO4.out;have hTl : (T.map (·.1)).length = 1 := (by rw [hx]; rfl);rw [hTl] at e';cases e';rcases h3' with ⟨h0, _⟩ | ⟨g6, rfl, hce⟩
     ·rw [hTl] at h0; cases h0
     have k1 := hce 1 (.slice (some ⟨g, 0, none⟩) 1 xc) (by rw [hx]; rfl);have fo := frozen_of_row w4 ob s _ _ HR4.out;have co := fRow_cell (j := s) HR4.out hsn.1;have hs1 : (s : Int) < (i : Int) := (by omega);have hs2 : ¬ i = s := (by omega);have h16 := h2';have hxcap : ¬ xc = 0 := (by have := hin.sl.fits; omega);have hc6 : ¬ c6 = 0 := (by omega);have hst := fRow_store (j := s) HR4.out (fun j => if j = s then 1 else 0) 1 (by simp) (fun j _ hj => by rw [if_neg hj]);have HST := hd_ hst;have HSN := hd_ hsn;have HUS := hd_ hs;clear hx hck hin c0 hce hTl hst hsn hs h1' h2';go_wp2_with fail
     go_ret2
     obtain ⟨o1, o2, o3, o4⟩ := one_ok HSN.out.1;refine ⟨ob, i, (List.replicate i 0).set s 1, rfl, HOB.out, rep_of_fRow HST.out (by simp) (fun j hj => ?_) hn (fun x hx => Nat.le_trans (o2 x hx) (by decide)), by simp, o1, (fun l hl => Nat.le_trans (o2 l hl) hm1), ?_, .inr (.inl ⟨o3, o4⟩), HB4.out.setCell (p := ⟨ob, s, none⟩) HOB.out _⟩
     ·rw [List.getD_eq_getElem?_getD, List.getElem?_set]
      by_cases h : s = j
      ·subst h
       simp [hj]
      ·rw [if_neg h, if_neg (fun e => h e.symm)]
       simp [hj]
     ·intro s' hs' h0
      have hm : s' ∈ pb.U ls i := List.mem_filter.2 ⟨List.mem_range.2 hs', by simpa [pb.wt] using h0⟩;rw [HUS.out] at hm;obtain rfl := List.mem_singleton.1 hm;rw [List.getD_eq_getElem?_getD, List.getElem?_set, if_pos rfl];simp [hs']
   ·obtain ⟨b6, hb6⟩ : ∃ g, a6 = some ⟨g, 0, none⟩ := by
     obtain ⟨a', c', e', _, _, h3⟩ := own_slice' HO4.out;rw [HTL.out] at e' h3;cases e';rcases h3 with ⟨h0, _⟩ | ⟨g, hg, _⟩
     ·omega
     ·exact ⟨g, hg⟩
    subst hb6;have hrk : RowK w.heap.size w4 b6 c6 (T.map (·.1)) := by
     unfold RowK;rw [HTL.out];exact HO4.out
    have CSO := hd_ (sortT_any w.heap.size b6 c6 tl T w4 hrk HA4.out HTT.out (by omega));have hn0 : ¬ tl = 0 := (by omega);have hn1 : ¬ tl = 1 := (by omega);have HRK := hd_ hrk;clear hrk HO4;go_wp2_with fail
    refine CSO.out.mono ?_;rintro e w5 ⟨rfl, T5, hp5, hr5, hA5, hs5, hg5⟩;have hob6 : ob ≠ b6 := by
     intro e;obtain ⟨_, cur, h1, _⟩ := HRK.out.block;exact ne_of_types HR4.out h1 (by decide) e
    have HR5 : Hid (w5.heap[ob]? = some (.cells (fRow .i64 (fun _ => 0) i) 3 (0, 0))) := hd_ (grown_block hg5 HR4.out (fun e => hob6 (Option.some.inj e)));have HB5 : Hid (Below w.heap.size w w5) := hd_ (HB4.out.grown hg5 HB4.out.size (fun r e => by obtain rfl := Option.some.inj e; exact HRK.out.block.1));have HK5 := hd_ hr5;have HA5 := hd_ hA5;have HRO : Hid (pm.Rows (pm.own (pb.wt ls) (pb.U ls i)) 0 (T5.map (·.2))) := hd_ (.base (by rw [<- HT.out]; exact hp5.map _) hs5);have HT5 : Hid ((T5.map (·.2)).Perm (pm.own (pb.wt ls) (pb.U ls i))) := hd_ (by rw [<- HT.out]; exact hp5.map _);have HL5 : Hid (T5.length = tl) := hd_ (hp5.length_eq.trans HTT.out);have HPM := hd_ hp5;clear CSO hp5 hr5 hA5 hs5 hg5 hob6 HRK HA4 HR4 HB4 HT HTT HTL;have hmi : IntKind.i64.wrap ((most : Int) - 1) = ((most - 1 : Nat) : Int) := i64o (by omega) (by omega);obtain ⟨K, hK⟩ : ∃ x, most - 1 = x := ⟨_, rfl⟩;rw [hK] at hmi;have HKM := hd_ hK;have hK16 : K <= 15 := (by omega);clear hK;have HAP5 : Hid (∀ x ∈ T5, x.1.a ≠ some ⟨ob, 0, none⟩) := hd_ (fun x hx => HAP.out x (HPM.out.subset hx));have hx30 : ∀ s ∈ pb.U ls i, pb.wt ls s <= 1073741824 := by
     intro s hs;have h1 := List.mem_range.1 (List.mem_filter.1 hs).1;exact HLE.out _ (pf.getD_mem (by rw [HL.out]; exact h1))
    have HX30 := hd_ hx30;clear hx30 HAP HPM;go_wp2_with fail
    go_loopg [11, 81] K (fun gk s11 s81 wr => ∃ (j rb rc rl : Nat) (R : List (Cn × pm.Coin)), j <= K /\ gk = K - j /\ s81 = .int .i64 (j : Nat) /\ s11 = .slice (some ⟨rb, 0, none⟩) rl rc /\ R.length = rl /\ RowK w.heap.size wr rb rc (R.map (·.1)) /\ pb.All wr R /\ (∀ x ∈ R, x.1.a ≠ some ⟨ob, 0, none⟩) /\ RowK w.heap.size wr b6 c6 (T5.map (·.1)) /\ pb.All wr T5 /\ pm.Rows (pm.own (pb.wt ls) (pb.U ls i)) j (R.map (·.2)) /\ wr.heap[ob]? = some (.cells (fRow .i64 (fun _ => 0) i) 3 (0, 0)) /\ Below w.heap.size w wr)
    case atStart => exact ⟨0, b6, c6, tl, T5, Nat.zero_le _, rfl, by go_num, rfl, HL5.out, HK5.out, HA5.out, HAP5.out, HK5.out, HA5.out, HRO.out, HR5.out, HB5.out⟩
    case round =>
     obtain ⟨j, rb, rc, rl, R, hj, hg, rfl, rfl, hrl, hrk, hra, hap, hok, hoa, hro, hout, hb⟩ := hrel;obtain ⟨wl, hwl⟩ : ∃ x, x = wr := ⟨_, rfl⟩;subst hwl;have Hg := hd_ hg;have HRL := hd_ hrl;have HRK := hd_ hrk;have HRA := hd_ hra;have HAP := hd_ hap;have HOK := hd_ hok;have HOA := hd_ hoa;have HRO2 := hd_ hro;have HOUT := hd_ hout;have HB := hd_ hb;have hlen := pb.rows_len hro;rw [List.length_map, hrl, HTU.out] at hlen;clear hg hrk hra hap hok hoa hro hout hb HK5 HA5 HRO HR5 HB5 hrl;have hrl2 : rl <= 8192 := (by have := hlen.2.1; omega);have hrl1 : tl <= rl := hlen.1;by_cases hlt : j < K
     ·clear hlen
      have HBD := hd_ (pb.rows_bound HRO2.out HX30.out);have hp15 : 2 ^ j <= 2 ^ 15 := Nat.pow_le_pow_right (by decide) (by omega);have HP15 := hd_ hp15;clear hp15;go_wp2_with fail
      go_loopg [12, 13] rl (fun gk s12 s13 wr => ∃ (k q : Nat) (P : List (Cn × pm.Coin)), q = 2 * k /\ q <= rl /\ gk = rl - q /\ s13 = .int .i64 (q : Nat) /\ OwnK wl.heap.size wr s12 (P.map (·.1)) /\ pb.All wr P /\ (∀ x ∈ P, x.1.a ≠ some ⟨ob, 0, none⟩) /\ P.map (·.2) = ((pm.pairs (R.map (·.2))).take k).map pm.merge /\ Below wl.heap.size wl wr)
      case atStart => exact ⟨0, 0, [], rfl, Nat.zero_le _, rfl, by go_num, World.ownsRow_nil _ _ _ _, (fun _ h => by cases h), (fun _ h => by cases h), rfl, Below.refl _ _⟩
      case round =>
       obtain ⟨k, q, P, hqk, hq, hg, rfl, ho, hpa, hpp, hpm, hb⟩ := hrel;obtain ⟨vp, hvp⟩ : ∃ x, x = u12 := ⟨_, rfl⟩;subst hvp;have Hg2 := hd_ hg;have HQK := hd_ hqk;have HPO := hd_ ho;have HPA := hd_ hpa;have HPP := hd_ hpp;have HPM := hd_ hpm;have HBL := hd_ hb;clear hg hqk ho hpa hpp hpm hb;by_cases hlt2 : q + 1 < rl
       ·obtain ⟨⟨xa, ya⟩, hxa⟩ : ∃ x, R[q]? = some x := ⟨_, List.getElem?_eq_getElem (by rw [HRL.out]; omega)⟩
        obtain ⟨⟨xb, yb⟩, hxb⟩ : ∃ x, R[q + 1]? = some x := ⟨_, List.getElem?_eq_getElem (by rw [HRL.out]; omega)⟩;have hca := HRA.out _ (List.mem_of_getElem? hxa);have hcb := HRA.out _ (List.mem_of_getElem? hxb);have hba := HBD.out ya (List.mem_map.2 ⟨_, List.mem_of_getElem? hxa, rfl⟩);have hbb := HBD.out yb (List.mem_map.2 ⟨_, List.mem_of_getElem? hxb, rfl⟩);have hrw := HRK.out.below HBL.out;obtain ⟨q1, hq1⟩ : ∃ z, q + 1 = z := ⟨_, rfl⟩;have k0 := hrw.cell (j := q) (e := xa) (by rw [List.getElem?_map, hxa]; rfl) (f := 0) (by decide) rfl;have k1 := hrw.cell (j := q) (e := xa) (by rw [List.getElem?_map, hxa]; rfl) (f := 1) (by decide) rfl;have k2 := hrw.cell (j := q1) (e := xb) (by rw [<- hq1, List.getElem?_map, hxb]; rfl) (f := 0) (by decide) rfl;have k3 := hrw.cell (j := q1) (e := xb) (by rw [<- hq1, List.getElem?_map, hxb]; rfl) (f := 1) (by decide) rfl;rw [Nat.add_zero] at k0 k2;obtain ⟨sa, hsa⟩ : ∃ z, ya.s = z := ⟨_, rfl⟩;obtain ⟨sb, hsb⟩ : ∃ z, yb.s = z := ⟨_, rfl⟩;obtain ⟨ga, ega, ina⟩ := hca.at';obtain ⟨gb, egb, inb⟩ := hcb.at';obtain ⟨xaw, xaa, xan, xac⟩ := xa;obtain ⟨xbw, xba, xbn, xbc⟩ := xb;simp only at ega egb;subst ega egb;have hna : sa.length = xan := (by rw [<- hsa]; exact ina.len);have hnb : sb.length = xbn := (by rw [<- hsb]; exact inb.len);have wa : xaw = ya.w := hca.wt;have wb : xbw = yb.w := hcb.wt;have pa : 1 <= xan := hca.pos;have pb' : 1 <= xbn := hcb.pos;have h15 := HP15.out;obtain ⟨p, hp⟩ : ∃ z, 2 ^ j = z := ⟨_, rfl⟩;rw [hp] at hba hbb h15;rw [<- hsa] at hna;rw [<- hsb] at hnb;have m1 : p * 1073741824 <= 32768 * 1073741824 := Nat.mul_le_mul_right _ h15;have hws0 : xaw + xbw <= 70368744177664 := (by omega);obtain ⟨ws, hws⟩ : ∃ z, xaw + xbw = z := ⟨_, rfl⟩;have hw1 : IntKind.i64.wrap ((xaw : Int) + (xbw : Int)) = (ws : Int) := i64o (by omega) (by omega);have hw2 : IntKind.i64.wrap ((q : Int) + 1) = (q1 : Int) := i64o (by omega) (by omega);have hw3 : (q1 : Int) < (rl : Int) := (by omega);have hw4 : (q : Int) < (rl : Int) := (by omega);have hw5 : ¬ rl = q := (by omega);have hw6 : ¬ rl = q1 := (by omega);obtain ⟨ns, hns⟩ : ∃ z, xan + xbn = z := ⟨_, rfl⟩;have HNS := hd_ hns;have HNB : Hid (ns <= 65536 /\ 1 <= ns) := hd_ (by omega);have HSA : Hid (In wr ga xan xac sa) := hd_ (by rw [<- hsa]; exact ina.below HBL.out);have HSB : Hid (In wr gb xbn xbc sb) := hd_ (by rw [<- hsb]; exact inb.below HBL.out);have HOW : Hid (ob < wr.heap.size) := hd_ (Nat.lt_of_lt_of_le (block_lt HOUT.out) HBL.out.size);have HXA : Hid ((R.map (·.2))[q]? = some ya) := hd_ (by rw [List.getElem?_map, hxa]; rfl);have HXB : Hid ((R.map (·.2))[q + 1]? = some yb) := hd_ (by rw [List.getElem?_map, hxb]; rfl);have HYA : Hid (ya = ⟨xaw, sa⟩) := hd_ (by rw [wa, <- hsa]);have HYB : Hid (yb = ⟨xbw, sb⟩) := hd_ (by rw [wb, <- hsb]);have HWS := hd_ hws;have hUi : ∀ c ∈ R.map (·.2), ∀ s ∈ c.s, s <= 4096 := fun c hc s hs => by
         have h1 := List.mem_range.1 (List.mem_filter.1 (pm.heavy HRO2.out c hc s hs).2).1;omega
        have HLA : Hid (∀ x ∈ sa, x <= 4096) := hd_ (by rw [<- hsa]; exact hUi _ (List.mem_of_getElem? HXA.out));have HLB : Hid (∀ x ∈ sb, x <= 4096) := hd_ (by rw [<- hsb]; exact hUi _ (List.mem_of_getElem? HXB.out));clear hUi;have HPL : Hid ((P.map (·.1)).length <= 1099511627776) := hd_ (by
         have h1 := congrArg List.length HPM.out;rw [List.length_map, List.length_map, List.length_take] at h1;rw [List.length_map];have := HQK.out;omega)
        clear hxa hxb hca hcb hba hbb hrw hq1 hsa hsb ina inb hna hnb wa wb pa pb' h15 hp m1 hws0 hws hns;go_upto_region 29 with (fail)
        refine wp_region_any (by kernel_rfl) ?_;refine wpAny_laid_tails (D := fun i => ([90, 91, 92, 93, 94, 95, 96, 97, 98, 99, 100, 101, 102, 103, 104, 105, 106, 107, 108, 109, 110, 111, 112, 113, 114, 115, 116, 117] : List Nat).getD i 0)
         (R := fun rj v w' => match rj with
          | 0 => vp = v
          | 1 => v = .slice (some ⟨rb, 0, none⟩) rl rc
          | 2 => v = .int .i64 (q : Nat)
          | 3 => v = .pointer (some ⟨rb, q * 2, none⟩)
          | 4 => v = .pointer (some ⟨rb, q * 2, none⟩)
          | 5 => v = .int .i64 (xaw : Nat)
          | 6 => v = .slice (some ⟨rb, 0, none⟩) rl rc
          | 7 => v = .int .i64 (q : Nat)
          | 8 => v = .int .i64 (q1 : Nat)
          | 9 => v = .pointer (some ⟨rb, q1 * 2, none⟩)
          | 10 => v = .pointer (some ⟨rb, q1 * 2, none⟩)
          | 11 => v = .int .i64 (xbw : Nat)
          | 12 => v = .int .i64 (ws : Nat)
          | 13 => v = .slice (some ⟨rb, 0, none⟩) rl rc
          | 14 => v = .int .i64 (q : Nat)
          | 15 => v = .pointer (some ⟨rb, q * 2, none⟩)
          | 16 => v = .pointer (some ⟨rb, q * 2 + 1, none⟩)
          | 17 => v = .slice (some ⟨ga, 0, none⟩) xan xac
          | 18 => v = .slice (some ⟨rb, 0, none⟩) rl rc
          | 19 => v = .int .i64 (q : Nat)
          | 20 => v = .int .i64 (q1 : Nat)
          | 21 => v = .pointer (some ⟨rb, q1 * 2, none⟩)
          | 22 => v = .pointer (some ⟨rb, q1 * 2 + 1, none⟩)
          | 23 => v = .slice (some ⟨gb, 0, none⟩) xbn xbc
          | 24 => ∃ g, v = .slice (some ⟨g, 0, none⟩) 2 2 /\ w'.heap[g]? = some (.cells #[.slice (some ⟨ga, 0, none⟩) xan xac, .slice (some ⟨gb, 0, none⟩) xbn xbc] 59 (0, 0))
          | 25 => ∃ g c, v = .slice (some ⟨g, 0, none⟩) ns c /\ ob < g /\ In w' g ns c (sa ++ sb)
          | 26 => ∃ g c, v = .agg #[.int .i64 (ws : Nat), .slice (some ⟨g, 0, none⟩) ns c] /\ ob < g /\ In w' g ns c (sa ++ sb)
          | 27 => NewC ob ws ns (sa ++ sb) v w'
          | _ => True)
         (S := fun a' w' => (a'.tmps[11]? = some (.slice (some ⟨rb, 0, none⟩) rl rc) /\ a'.tmps[12]? = some vp /\ a'.tmps[13]? = some (.int .i64 (q : Nat))) /\ Below wr.heap.size wr w')
         28 (by decide) (by kernel_rfl) (by decide +kernel) (by decide +kernel) (by decide +kernel) (by decide +kernel) (by kernel_rfl) ?_ ?_ ?_ ?_
        ·intro i v u u' h hb
         match i, h with
         | 0, h => exact h
         | 1, h => exact h
         | 2, h => exact h
         | 3, h => exact h
         | 4, h => exact h
         | 5, h => exact h
         | 6, h => exact h
         | 7, h => exact h
         | 8, h => exact h
         | 9, h => exact h
         | 10, h => exact h
         | 11, h => exact h
         | 12, h => exact h
         | 13, h => exact h
         | 14, h => exact h
         | 15, h => exact h
         | 16, h => exact h
         | 17, h => exact h
         | 18, h => exact h
         | 19, h => exact h
         | 20, h => exact h
         | 21, h => exact h
         | 22, h => exact h
         | 23, h => exact h
         | 24, h => exact (match h with | ⟨g, h1, h2⟩ => ⟨g, h1, (hb.block _ (block_lt h2)).trans h2⟩)
         | 25, h => exact (match h with | ⟨g, c, h1, h2, h3⟩ => ⟨g, c, h1, h2, h3.below hb⟩)
         | 26, h => exact (match h with | ⟨g, c, h1, h2, h3⟩ => ⟨g, c, h1, h2, h3.below hb⟩)
         | 27, h => exact NewC.below h hb
         | i + 28, _ => trivial
        ·intro a' u hb _ hold
         exact ⟨⟨hold 11 (by decide), hold 12 (by decide), hold 13 (by decide)⟩, hb⟩
        ·refine ⟨?_, ?_, ?_, ?_, ?_, ?_, ?_, ?_, ?_, ?_, ?_, ?_, ?_, ?_, ?_, ?_, ?_, ?_, ?_, ?_, ?_, ?_, ?_, ?_, ?_, ?_, ?_, ?_, trivial⟩
         ·intro a' u hS hd
          clear hd;have g0 := hS.1.2.1;go_simp
          exact ⟨_, rfl, rfl, Below.refl _ _⟩
         ·intro a' u hS hd
          clear hd;have g0 := hS.1.1;go_simp
          exact ⟨_, rfl, rfl, Below.refl _ _⟩
         ·intro a' u hS hd
          clear hd;have g0 := hS.1.2.2;go_simp
          exact ⟨_, rfl, rfl, Below.refl _ _⟩
         ·intro a' u hS hd
          obtain ⟨_, e0, rfl⟩ := hd 1 (by kernel_rfl);have f0 : a'.tmps[91]? = some _ := e0;clear e0;obtain ⟨_, e1, rfl⟩ := hd 2 (by kernel_rfl);have f1 : a'.tmps[92]? = some _ := e1;clear e1;clear hd;go_simp
          exact ⟨_, rfl, rfl, Below.refl _ _⟩
         ·intro a' u hS hd
          obtain ⟨_, e0, rfl⟩ := hd 3 (by kernel_rfl);have f0 : a'.tmps[93]? = some _ := e0;clear e0;clear hd;go_simp
          exact ⟨_, rfl, rfl, Below.refl _ _⟩
         ·intro a' u hS hd
          obtain ⟨_, e0, rfl⟩ := hd 4 (by kernel_rfl);have f0 : a'.tmps[94]? = some _ := e0;clear e0;clear hd;have x0 := keep_cell hS.2 k0;go_simp
          exact ⟨_, rfl, rfl, Below.refl _ _⟩
         ·intro a' u hS hd
          clear hd;have g0 := hS.1.1;go_simp
          exact ⟨_, rfl, rfl, Below.refl _ _⟩
         ·intro a' u hS hd
          clear hd;have g0 := hS.1.2.2;go_simp
          exact ⟨_, rfl, rfl, Below.refl _ _⟩
         ·intro a' u hS hd
          obtain ⟨_, e0, rfl⟩ := hd 7 (by kernel_rfl);have f0 : a'.tmps[97]? = some _ := e0;clear e0;clear hd;go_simp
          exact ⟨_, rfl, rfl, Below.refl _ _⟩
         ·intro a' u hS hd
          obtain ⟨_, e0, rfl⟩ := hd 6 (by kernel_rfl);have f0 : a'.tmps[96]? = some _ := e0;clear e0;obtain ⟨_, e1, rfl⟩ := hd 8 (by kernel_rfl);have f1 : a'.tmps[98]? = some _ := e1;clear e1;clear hd;go_simp
          exact ⟨_, rfl, rfl, Below.refl _ _⟩
         ·intro a' u hS hd
          obtain ⟨_, e0, rfl⟩ := hd 9 (by kernel_rfl);have f0 : a'.tmps[99]? = some _ := e0;clear e0;clear hd;go_simp
          exact ⟨_, rfl, rfl, Below.refl _ _⟩
         ·intro a' u hS hd
          obtain ⟨_, e0, rfl⟩ := hd 10 (by kernel_rfl);have f0 : a'.tmps[100]? = some _ := e0;clear e0;clear hd;have x0 := keep_cell hS.2 k2;go_simp
          exact ⟨_, rfl, rfl, Below.refl _ _⟩
         ·intro a' u hS hd
          obtain ⟨_, e0, rfl⟩ := hd 5 (by kernel_rfl);have f0 : a'.tmps[95]? = some _ := e0;clear e0;obtain ⟨_, e1, rfl⟩ := hd 11 (by kernel_rfl);have f1 : a'.tmps[101]? = some _ := e1;clear e1;clear hd;go_simp
          exact ⟨_, rfl, rfl, Below.refl _ _⟩
         ·intro a' u hS hd
          clear hd;have g0 := hS.1.1;go_simp
          exact ⟨_, rfl, rfl, Below.refl _ _⟩
         ·intro a' u hS hd
          clear hd;have g0 := hS.1.2.2;go_simp
          exact ⟨_, rfl, rfl, Below.refl _ _⟩
         ·intro a' u hS hd
          obtain ⟨_, e0, rfl⟩ := hd 13 (by kernel_rfl);have f0 : a'.tmps[103]? = some _ := e0;clear e0;obtain ⟨_, e1, rfl⟩ := hd 14 (by kernel_rfl);have f1 : a'.tmps[104]? = some _ := e1;clear e1;clear hd;go_simp
          exact ⟨_, rfl, rfl, Below.refl _ _⟩
         ·intro a' u hS hd
          obtain ⟨_, e0, rfl⟩ := hd 15 (by kernel_rfl);have f0 : a'.tmps[105]? = some _ := e0;clear e0;clear hd;go_simp
          exact ⟨_, rfl, rfl, Below.refl _ _⟩
         ·intro a' u hS hd
          obtain ⟨_, e0, rfl⟩ := hd 16 (by kernel_rfl);have f0 : a'.tmps[106]? = some _ := e0;clear e0;clear hd;have x0 := keep_cell hS.2 k1;go_simp
          exact ⟨_, rfl, rfl, Below.refl _ _⟩
         ·intro a' u hS hd
          clear hd;have g0 := hS.1.1;go_simp
          exact ⟨_, rfl, rfl, Below.refl _ _⟩
         ·intro a' u hS hd
          clear hd;have g0 := hS.1.2.2;go_simp
          exact ⟨_, rfl, rfl, Below.refl _ _⟩
         ·intro a' u hS hd
          obtain ⟨_, e0, rfl⟩ := hd 19 (by kernel_rfl);have f0 : a'.tmps[109]? = some _ := e0;clear e0;clear hd;go_simp
          exact ⟨_, rfl, rfl, Below.refl _ _⟩
         ·intro a' u hS hd
          obtain ⟨_, e0, rfl⟩ := hd 18 (by kernel_rfl);have f0 : a'.tmps[108]? = some _ := e0;clear e0;obtain ⟨_, e1, rfl⟩ := hd 20 (by kernel_rfl);have f1 : a'.tmps[110]? = some _ := e1;clear e1;clear hd;go_simp
          exact ⟨_, rfl, rfl, Below.refl _ _⟩
         ·intro a' u hS hd
          obtain ⟨_, e0, rfl⟩ := hd 21 (by kernel_rfl);have f0 : a'.tmps[111]? = some _ := e0;clear e0;clear hd;go_simp
          exact ⟨_, rfl, rfl, Below.refl _ _⟩
         ·intro a' u hS hd
          obtain ⟨_, e0, rfl⟩ := hd 22 (by kernel_rfl);have f0 : a'.tmps[112]? = some _ := e0;clear e0;clear hd;have x0 := keep_cell hS.2 k3;go_simp
          exact ⟨_, rfl, rfl, Below.refl _ _⟩
         ·intro a' u hS hd
          obtain ⟨_, e0, rfl⟩ := hd 17 (by kernel_rfl);have f0 : a'.tmps[107]? = some _ := e0;clear e0;obtain ⟨_, e1, rfl⟩ := hd 23 (by kernel_rfl);have f1 : a'.tmps[113]? = some _ := e1;clear e1;clear hd;go_simp
          exact ⟨_, rfl, ⟨_, rfl, heap_alloc_new _ _⟩, (Below.refl _ _).alloc (Nat.le_refl _) _⟩
         ·intro a' u hS hd
          obtain ⟨_, e0, sg, rfl, hsg⟩ := hd 24 (by kernel_rfl);have f0 : a'.tmps[114]? = some _ := e0;clear e0 hd;have CI := hd_ (catI_any sg xan xbn ns ga gb xac xbc sa sb u hsg (HSA.out.below hS.2) (HSB.out.below hS.2) HNS.out HNB.out HLA.out HLB.out);clear hsg;have hob : ob < u.heap.size := Nat.lt_of_lt_of_le HOW.out hS.2.size;go_simp
          refine CI.out.mono ?_;rintro e u' ⟨g, c, rfl, h1, h2, h3⟩;exact ⟨_, rfl, ⟨g, c, rfl, Nat.lt_of_lt_of_le hob h1, h2⟩, h3⟩
         ·intro a' u hS hd
          obtain ⟨_, e0, rfl⟩ := hd 12 (by kernel_rfl);have f0 : a'.tmps[102]? = some _ := e0;obtain ⟨_, e1, g, c, rfl, h1, h2⟩ := hd 25 (by kernel_rfl);have f1 : a'.tmps[115]? = some _ := e1;clear e0 e1 hd;go_simp
          exact ⟨_, rfl, ⟨g, c, rfl, h1, h2⟩, Below.refl _ _⟩
         ·intro a' u hS hd
          obtain ⟨_, e0, g, c, rfl, h1, h2⟩ := hd 26 (by kernel_rfl);have f0 : a'.tmps[116]? = some _ := e0;clear e0 hd;go_simp
          exact ⟨_, rfl, ⟨_, g, c, rfl, heap_alloc_new _ _, h1, h2.below ((Below.refl _ _).alloc (Nat.le_refl _) _)⟩, (Below.refl _ _).alloc (Nat.le_refl _) _⟩
        ·intro a' u h
         obtain ⟨_, e90, rfl⟩ := h.new 0 (by decide) (by decide +kernel);replace e90 : a'.tmps[90]? = some (vp) := e90;obtain ⟨_, e117, ga, gn, cn, rfl, hga, hgn, hin⟩ := h.new 27 (by decide) (by decide +kernel);replace e117 : a'.tmps[117]? = some (.slice (some ⟨ga, 0, none⟩) 1 1) := e117;have htm := tmps_set h.size [90, 91, 92, 93, 94, 95, 96, 97, 98, 99, 100, 101, 102, 103, 104, 105, 106, 107, 108, 109, 110, 111, 112, 113, 114, 115, 116, 117] (fun d hd => h.old d (fun i hi e => hd (by rw [<- e]; exact mem_getD hi)));have hdf : a'.defers = [] := h.defers;have hbu := h.below;clear h;obtain ⟨fx, hf⟩ : ∃ f : Nat -> Value, (fun i => a'.tmps.getD i undef) = f := ⟨_, rfl⟩;replace e90 : (fun i => a'.tmps.getD i undef) 90 = _ := slot_of e90;replace e117 : (fun i => a'.tmps.getD i undef) 117 = _ := slot_of e117;have hff : ∀ i, a'.tmps.getD i undef = fx i := fun i => congrFun hf i
         simp only [hff] at e90 e117;simp only [List.foldl_cons, List.foldl_nil, hff] at htm;obtain ⟨tmps, defers⟩ := a';dsimp only at hdf htm;subst hdf;rw [htm, e90, e117];clear htm hf hff e90 e117;have HIN := hd_ hin;have HGN := hd_ hgn;have HGA := hd_ hga;have HBU := hd_ hbu;have HO2 := hd_ (HPO.out.below hbu);have HA2 := hd_ (HPA.out.below hbu);have HSZ : Hid (wl.heap.size <= u.heap.size) := hd_ (Nat.le_trans HBL.out.size hbu.size);have hw7 : IntKind.i64.wrap ((q : Int) + 2) = ((q + 2 : Nat) : Int) := i64o (by omega) (by omega);obtain ⟨q2, hq2⟩ : ∃ z, q + 2 = z := ⟨_, rfl⟩;rw [hq2] at hw7;have HQ2 := hd_ hq2;have hq2l : q2 <= rl := (by omega);clear hga hin hgn hbu k0 k1 k2 k3 hw1 hw2 hw3 hw4 hw5 hw6 hq2;simp only [List.setIfInBounds_toArray, List.set_cons_succ, List.set_cons_zero];refine wpList_of_append rfl (.tmp 90) (.tmp 117) 220 220 rfl (run_append_k _ _ wl.heap.size vp (P.map (·.1)) ⟨ws, some ⟨gn, 0, none⟩, ns, cn⟩ HO2.out HPL.out HSZ.out ga HGA.out) ?_;rintro v9 w9 ⟨ho9, hg9⟩;have HO9 := hd_ ho9;have HG9 := hd_ hg9;clear ho9 hg9;go_wp2_with fail
         go_roundg (rl - q2)
         case measure => have := Hg2.out; have := HQ2.out; omega
         case rel =>
          have hob := own_coin HO2.out;refine ⟨k + 1, q2, P ++ [(⟨ws, some ⟨gn, 0, none⟩, ns, cn⟩, ⟨ws, sa ++ sb⟩)], by have := HQ2.out; have := HQK.out; omega, hq2l, rfl, by go_num, ?_, ?_, ?_, ?_, ?_⟩
          ·rw [List.map_append]
           exact HO9.out
          ·refine All.append (HA2.out.grown HG9.out (fun b e => (hob b e).2.2)) ?_
           intro y hy;obtain rfl := List.mem_singleton.1 hy;exact Ck.grown (x := (⟨ws, some ⟨gn, 0, none⟩, ns, cn⟩, ⟨ws, sa ++ sb⟩)) ⟨rfl, HNB.out.2, gn, rfl, HIN.out⟩ HG9.out (fun b e => (hob b e).2.2)
          ·intro y hy
           rcases List.mem_append.1 hy with h | h
           ·exact HPP.out y h
           ·obtain rfl := List.mem_singleton.1 h
            intro e;have h1 : gn = ob := congrArg Addr.block (Option.some.inj e);have := HGN.out;omega
          ·have hp1 := pb.pairs_get (R.map (·.2)) k ya yb (by rw [<- HQK.out]; exact HXA.out) (by rw [<- HQK.out]; exact HXB.out)
           rw [List.map_append, HPM.out, List.take_add_one, hp1, List.map_append, HYA.out, HYB.out];show _ ++ [(⟨ws, sa ++ sb⟩ : pm.Coin)] = _ ++ [⟨xaw + xbw, sa ++ sb⟩];rw [HWS.out]
          ·exact (HBL.out.trans (HBU.out.mono HBL.out.size)).grown HG9.out HSZ.out (fun r e => (hob r e).1)
       ·have hlk : ((R.map (·.2)).length / 2) <= k := by
         have := HQK.out;rw [List.length_map, HRL.out];omega
        have HPX : Hid (P.map (·.2) = (pm.pairs (R.map (·.2))).map pm.merge) := hd_ (by
         obtain ⟨_, _, _, h2⟩ := pm.pairs_flat (R.map (·.2));rw [HPM.out, List.take_of_length_le (by rw [h2]; exact hlk)])
        obtain ⟨m, hm⟩ : ∃ z, P.length = z := ⟨_, rfl⟩;have hmr : m <= 4096 := by
         obtain ⟨_, _, _, h2⟩ := pm.pairs_flat (R.map (·.2));have h1 := congrArg List.length HPX.out;rw [List.length_map, List.length_map, h2, List.length_map, HRL.out] at h1;omega
        obtain ⟨pa, pc, epv⟩ : ∃ a c, vp = .slice a m c := by
         obtain ⟨a', c', e', _⟩ := own_slice' HPO.out;exact ⟨a', c', by rw [<- hm, <- List.length_map (f := (·.1))]; exact e'⟩
        subst epv;have HMP := hd_ hm;have hba : Below wr.heap.size wr (wr.alloc (.cells #[.slice (some ⟨b6, 0, none⟩) tl c6, .slice pa m pc] 220)) := (Below.refl _ _).alloc (Nat.le_refl _) _;have hga := heap_alloc_new wr (.cells #[.slice (some ⟨b6, 0, none⟩) tl c6, .slice pa m pc] 220 (0, 0));obtain ⟨wa, hwa⟩ : ∃ z, wr.alloc (.cells #[.slice (some ⟨b6, 0, none⟩) tl c6, .slice pa m pc] 220) = z := ⟨_, rfl⟩;rw [hwa] at hba hga;have hb9 := HBL.out.trans (hba.mono HBL.out.size);have HB9 := hd_ hb9;have hok9 := HOK.out.below hb9;have HOK9 := hd_ hok9;have hoa9 := HOA.out.below hb9;have hkx : OwnK w.heap.size wa (.slice (some ⟨b6, 0, none⟩) tl c6) (T5.map (·.1)) := by
         have h1 := hok9;unfold RowK at h1;rw [List.length_map, HL5.out] at h1;exact h1
        have hpo9 : OwnK w.heap.size wa (.slice pa m pc) (P.map (·.1)) := World.ownsRow.mono (HPO.out.below hba) HB.out.size;have CAT := hd_ (catT_any w.heap.size wr.heap.size tl m _ _ T5 P wa hkx hpo9 hga hoa9 (HPA.out.below hba) HL5.out hm (by omega) (by omega) (by omega));have HOU9 : Hid (wa.heap[ob]? = some (.cells (fRow .i64 (fun _ => 0) i) 3 (0, 0))) := hd_ ((hb9.block _ (block_lt HOUT.out)).trans HOUT.out);have HBW := hd_ (HB.out.trans (hb9.mono HB.out.size));obtain ⟨nl, hnl⟩ : ∃ z, tl + m = z := ⟨_, rfl⟩;rw [hnl] at CAT;have hnl2 : nl <= 1048576 := (by omega);have HNL := hd_ hnl;clear hm hba hga hb9 hok9 hoa9 hkx hpo9 hnl hlk;go_upto_region 30 with (fail)
        go_wp2_with fail
        refine CAT.out.mono ?_;rintro e w6 ⟨g6, c9, rfl, hg6, hr6, hal6, hb6⟩;have hrk6 : RowK w.heap.size w6 g6 c9 ((T5 ++ P).map (·.1)) := World.ownsRow.mono hr6 (Nat.le_trans HBW.out.size (Nat.le_refl _));have hln6 : (T5 ++ P).length = nl := (by rw [List.length_append, HL5.out, HMP.out]; exact HNL.out);have CS6 := hd_ (sortT_any w.heap.size g6 c9 nl (T5 ++ P) w6 hrk6 hal6 hln6 (by omega));have HOU6 : Hid (w6.heap[ob]? = some (.cells (fRow .i64 (fun _ => 0) i) 3 (0, 0))) := hd_ ((hb6.block _ (block_lt HOU9.out)).trans HOU9.out);have HOK6 := hd_ (HOK9.out.below hb6);have HOA6 := hd_ ((HOA.out.below HB9.out).below hb6);have HBW6 := hd_ (HBW.out.trans (hb6.mono HBW.out.size));have HG6 : Hid (ob < g6 /\ b6 < g6 /\ w.heap.size <= g6) := hd_ (by
         obtain ⟨_, cur, h1, _⟩ := HOK9.out.block;have h2 := block_lt h1;have h3 := block_lt HOU9.out;have h4 := HBW.out.size;exact ⟨by omega, by omega, by omega⟩)
        have HLN6 := hd_ hln6;have HRK6 := hd_ hrk6;clear CAT hg6 hr6 hal6 hb6 hrk6 hln6;go_wp2_with fail
        refine CS6.out.mono ?_;rintro e w7 ⟨rfl, T7, hp7, hr7, hA7, hs7, hg7⟩;have HP7 := hd_ hp7;have HR7 := hd_ hr7;have HA7 := hd_ hA7;have HS7 := hd_ hs7;have HG7 := hd_ hg7;clear CS6 hp7 hr7 hA7 hs7 hg7;go_wp2_with fail
        go_roundg (K - (j + 1))
        case measure => have := Hg.out; omega
        case rel =>
         have hne : ∀ b, b < g6 -> some b ≠ some g6 := fun b hb e => by have := Option.some.inj e; omega
         refine ⟨j + 1, g6, c9, nl, T7, by omega, rfl, by go_num, rfl, HP7.out.length_eq.trans HLN6.out, HR7.out, HA7.out, ?_, ?_, ?_, ?_, grown_block HG7.out HOU6.out (hne _ HG6.out.1), ?_⟩
         ·intro x hx
          rcases List.mem_append.1 (HP7.out.subset hx) with h | h
          ·exact HAP5.out x h
          ·exact HPP.out x h
         ·exact World.ownsRow.kept HOK6.out HG7.out (.inr (hne _ HG6.out.2.1))
         ·exact HOA6.out.grown HG7.out (fun b e => by
           obtain rfl := Option.some.inj e;obtain ⟨_, cur, h1, _⟩ := HRK6.out.block;exact ⟨cur, h1⟩)
         ·refine .step HRO2.out ?_ HS7.out
          refine (HP7.out.map _).trans ?_;rw [List.map_append, HPX.out];exact HT5.out.append_right _
         ·exact HBW6.out.grown HG7.out HBW6.out.size (fun r e => by obtain rfl := Option.some.inj e; exact HG6.out.2.2)
     ·obtain rfl : j = K := by omega
      have hen := pb.rows_enough HRO2.out (by
       rw [HTU.out, show j + 1 = most by have := HKM.out; omega];exact Nat.le_trans (U_le_of HTU.out) HFIT.out)
      rw [HTU.out, List.length_map, HRL.out] at hen;have hbl := HRK.out.block;rw [List.length_map, HRL.out] at hbl;obtain ⟨_, cur, _, _, hcap, hmx⟩ := hbl;unfold maxLen at hmx;obtain ⟨n2, hn2⟩ : ∃ z, 2 * tl - 2 = z := ⟨_, rfl⟩;have hw1 : IntKind.i64.wrap (2 * (tl : Int)) = ((2 * tl : Nat) : Int) := i64o (by omega) (by omega);obtain ⟨tt, htt⟩ : ∃ z, 2 * tl = z := ⟨_, rfl⟩;rw [htt] at hw1 hn2;have hw2 : IntKind.i64.wrap ((tt : Int) - 2) = (n2 : Int) := i64o (by omega) (by omega);have HTT2 := hd_ htt;have hn2r : n2 <= rl := (by omega);have hw3 : (n2 : Int) <= (rc : Int) := (by omega);have HN2 := hd_ hn2;clear hen hn2 htt;obtain ⟨R2, hR2⟩ : ∃ z, R.map (·.2) = z := ⟨_, rfl⟩;have HR2 := hd_ hR2;have HBD := hd_ (pb.rows_bound HRO2.out HX30.out);have HHV := hd_ (pm.heavy HRO2.out);rw [hR2] at HBD HHV HRO2;have hobr : some rb ≠ some ob := fun e => by
       obtain ⟨_, cur, h1, _⟩ := HRK.out.block;exact ne_of_types h1 HOUT.out (by decide) (Option.some.inj e)
      have HOBR := hd_ hobr;clear hR2 hobr;go_wp2_with fail
      go_loopg [134] n2 (fun gk s134 wr => ∃ c : Nat, c <= n2 /\ gk = n2 - c /\ s134 = .int .i64 (c : Nat) /\ wr.heap[ob]? = some (.cells (fRow .i64 (fun s => (pm.syms (R2.take c)).count s) i) 3 (0, 0)) /\ wl.grownBy wr (some ob) /\ Below w.heap.size w wr)
      case atStart => exact ⟨0, Nat.zero_le _, rfl, by go_num, HOUT.out, World.grownBy.refl _ _, HB.out⟩
      case round =>
       obtain ⟨c, hc, hg2, rfl, ho, hgr, hb⟩ := hrel;have Hg2 := hd_ hg2;have HO := hd_ ho;have HGR := hd_ hgr;have HBW := hd_ hb;clear hg2 ho hgr hb;by_cases hlt : c < n2
       ·obtain ⟨⟨⟨xw, xad, xn, xc⟩, y⟩, hx⟩ : ∃ x, R[c]? = some x := ⟨_, List.getElem?_eq_getElem (by rw [HRL.out]; omega)⟩
        have hck := HRA.out _ (List.mem_of_getElem? hx);have hapx := HAP.out _ (List.mem_of_getElem? hx);obtain ⟨g, eg, hin⟩ := hck.at';simp only at eg hin hapx;subst eg;have hgo : some g ≠ some ob := fun e => hapx (by rw [Option.some.inj e])
        have hrw : RowK w.heap.size wr rb rc (R.map (·.1)) := World.ownsRow.kept HRK.out HGR.out (.inr HOBR.out);have hinw := In_grown hin HGR.out hgo;have k0 := hrw.cell (j := c) (e := ⟨xw, some ⟨g, 0, none⟩, xn, xc⟩) (by rw [List.getElem?_map, hx]; rfl) (f := 0) (by decide) rfl;have k1 := hrw.cell (j := c) (e := ⟨xw, some ⟨g, 0, none⟩, xn, xc⟩) (by rw [List.getElem?_map, hx]; rfl) (f := 1) (by decide) rfl;rw [Nat.add_zero] at k0;have HY : Hid (R2[c]? = some y) := hd_ (by rw [<- HR2.out, List.getElem?_map, hx]; rfl);have HIN := hd_ hinw;have HGO := hd_ hgo;have hcn : (c : Int) < (n2 : Int) := (by omega);have hcn2 : ¬ n2 = c := (by omega);clear hx hck hapx hin hrw hinw hgo;go_upto_region 36 with (fail)
        have hba : Below wr.heap.size wr (wr.alloc (.cells #[.int .i64 (xw : Nat), .slice (some ⟨g, 0, none⟩) xn xc] 222)) := (Below.refl _ _).alloc (Nat.le_refl _) _;have hna := heap_alloc_new wr (.cells #[.int .i64 (xw : Nat), .slice (some ⟨g, 0, none⟩) xn xc] 222 (0, 0));have s1 := (cr_ _ 1 hna (Value.slice (some ⟨g, 0, none⟩) xn xc) rfl);obtain ⟨wa, hwa⟩ : ∃ z, wr.alloc (.cells #[.int .i64 (xw : Nat), .slice (some ⟨g, 0, none⟩) xn xc] 222) = z := ⟨_, rfl⟩;obtain ⟨nb, hnb⟩ : ∃ z, wr.heap.size = z := ⟨_, rfl⟩;have hga : wr.grownBy wa (some ob) := (by rw [<- hwa]; exact grown_any (grown_of_below ((Below.refl _ _).alloc (Nat.le_refl _) _)));rw [hwa] at hba hna s1;rw [hnb] at s1;rw [hwa, hnb];have HO9 := hd_ ((hba.block _ (block_lt HO.out)).trans HO.out);have HG9 := hd_ (grown_join HGR.out hga);have HB9 := hd_ (HBW.out.trans (hba.mono HBW.out.size));have HI9 := hd_ (HIN.out.below hba);obtain ⟨sy, hsy⟩ : ∃ z, y.s = z := ⟨_, rfl⟩;have hsl : sy.length = xn := (by rw [<- hsy]; exact HIN.out.len);have hyb := (HBD.out y (List.mem_of_getElem? HY.out)).1;have hp15 : 2 ^ j <= 2 ^ 15 := Nat.pow_le_pow_right (by decide) (by omega);rw [hsy] at hyb;have HUS : Hid (∀ s ∈ sy, s < i) := hd_ (fun s hs => by
         rw [<- hsy] at hs;exact List.mem_range.1 (List.mem_filter.1 (HHV.out y (List.mem_of_getElem? HY.out) s hs).2).1)
        have HTK : Hid (pm.syms (R2.take (c + 1)) = pm.syms (R2.take c) ++ sy) := hd_ (by
         rw [List.take_add_one, HY.out];unfold pm.syms;rw [List.flatMap_append, <- hsy];simp)
        have HSL : Hid ((pm.syms (R2.take c)).length <= 8192 * 32768) := hd_ (by
         have h1 := pb.syms_len (R2.take c) 32768 (fun z hz => by
          have h2 := (HBD.out z (List.mem_of_mem_take hz)).1;omega)
         rw [List.length_take] at h1;have h3 : min c R2.length <= 8192 := (by omega);exact Nat.le_trans h1 (Nat.mul_le_mul_right _ h3))
        rw [hsy] at HI9;obtain ⟨Q, hQ⟩ : ∃ z, pm.syms (R2.take c) = z := ⟨_, rfl⟩;rw [hQ] at HO9 HTK HSL;have hxn : xn <= 32768 := (by omega);have HSY := hd_ hsl;clear hba hna hwa hnb hga hsy hsl hyb hp15 hQ k0 k1 HIN HO HGR HBW;go_wp2_with fail
        clear s1;go_loopg [141] xn (fun gk s141 wr => ∃ d : Nat, d <= xn /\ gk = xn - d /\ s141 = .int .i64 (d : Nat) /\ wr.heap[ob]? = some (.cells (fRow .i64 (fun s => (Q ++ sy.take d).count s) i) 3 (0, 0)) /\ wl.grownBy wr (some ob) /\ In wr g xn xc sy /\ Below w.heap.size w wr)
        case atStart => exact ⟨0, Nat.zero_le _, rfl, by go_num, by rw [List.take_zero, List.append_nil]; exact HO9.out, HG9.out, HI9.out, HB9.out⟩
        case round =>
         obtain ⟨d, hd, hg3, rfl, ho, hgr, hin, hb⟩ := hrel;have Hg3 := hd_ hg3;have HO := hd_ ho;have HGR := hd_ hgr;have HBW := hd_ hb;have HIN := hd_ hin;clear hg3 ho hgr hb hin HO9 HG9 HB9 HI9;by_cases hlt3 : d < xn
         ·have e0 := HIN.out.cell (i := d) hlt3
          have hdl : d < sy.length := (by rw [HSY.out]; exact hlt3);have hsd := HUS.out (sy.getD d 0) (pf.getD_mem hdl);have htk : sy.take (d + 1) = sy.take d ++ [sy.getD d 0] := take_snocN hdl;obtain ⟨s, hs⟩ : ∃ z, sy.getD d 0 = z := ⟨_, rfl⟩;rw [hs] at e0 hsd htk;have o0 := fRow_cell (j := s) HO.out hsd;have fo := frozen_of_row wr ob s _ _ HO.out;obtain ⟨x, hx⟩ : ∃ z, (Q ++ sy.take d).count s = z := ⟨_, rfl⟩;have hxl : x <= 8192 * 32768 + 32768 := by
           rw [<- hx];refine Nat.le_trans List.count_le_length ?_;rw [List.length_append, List.length_take];have := HSL.out;omega
          rw [hx] at o0;have e1 : IntKind.i64.wrap ((x : Int) + 1) = ((x + 1 : Nat) : Int) := i64o (by omega) (by omega);obtain ⟨x1, hx1⟩ : ∃ z, x + 1 = z := ⟨_, rfl⟩;rw [hx1] at e1;have hst := fRow_store (j := s) HO.out (fun z => (Q ++ sy.take (d + 1)).count z) x1 (by
           show (Q ++ sy.take (d + 1)).count s = x1;rw [htk, <- List.append_assoc, List.count_append, hx, List.count_singleton_self];exact hx1) (fun z _ hz => by
           show (Q ++ sy.take (d + 1)).count z = (Q ++ sy.take d).count z;rw [htk, <- List.append_assoc, List.count_append, List.count_singleton];simp [Ne.symm hz])
          have HST := hd_ hst;have HGS := hd_ (grown_join HGR.out (grownBy_setCell3 wr ob s (.int .i64 (x1 : Nat))));have HBS := hd_ (HBW.out.setCell (p := ⟨ob, s, none⟩) HOB.out (.int .i64 (x1 : Nat)));have HIS := hd_ (In_grown HIN.out (grownBy_setCell3 wr ob s (.int .i64 (x1 : Nat))) HGO.out);have hi1 : (d : Int) < (xn : Int) := (by omega);have hi2 : ¬ xn = d := (by omega);have hi3 : (s : Int) < (i : Int) := (by omega);have hi4 : ¬ i = s := (by omega);have hxc : ¬ xc = d := (by have := HIN.out.sl.fits; omega);clear hs hx hx1 htk hst;go_wp2_with fail
          go_roundg (xn - (d + 1))
          case measure => have := Hg3.out; omega
          case rel => exact ⟨d + 1, by omega, rfl, by go_num, HST.out, HGS.out, HIS.out, HBS.out⟩
         ·obtain rfl : d = xn := by omega
          have htk : sy.take d = sy := List.take_of_length_le (by rw [HSY.out]; exact Nat.le_refl _);have HTS := hd_ htk;clear htk;go_wp2_with fail
          go_roundg (n2 - (c + 1))
          case measure => have := Hg2.out; omega
          case rel => exact ⟨c + 1, by omega, rfl, by go_num, by have h1 := HO.out; rw [HTS.out, <- HTK.out] at h1; exact h1, HGR.out, HBW.out⟩
       ·obtain rfl : c = n2 := by omega
        clear hlt;go_wp2_with fail
        go_ret2
        have hsr := pb.rows_sorted HRO2.out;have hrl' : R2.length = rl := (by rw [<- HR2.out, List.length_map]; exact HRL.out);have hcl : (R2.take c).length = c := (by rw [List.length_take, hrl']; omega);have hms := pm.lengths (m := i) (p := fun s => decide (0 < pb.wt ls s)) (fun s hs => by simpa using (List.mem_filter.1 hs).2) HRO2.out (by omega) (C := R2.take c) (N := R2.drop c) (by rw [List.take_append_drop]) (pb.dom_of_sorted hsr c) (by have h1 := HTU.out; have h2 := HN2.out; have h3 := HTT2.out; rw [hcl]; show c + 2 = 2 * (pb.U ls i).length; omega) (by have h1 := HTU.out; show 2 <= (pb.U ls i).length; omega) (ls := pb.cntRow i (pm.syms (R2.take c))) (pb.cntRow_length _ _) (fun s hs => pb.cntRow_get _ hs);obtain ⟨m1, m2, m3⟩ := hms;have hKm : j + 1 = most := (by have := HKM.out; omega);rw [hKm] at m2;refine ⟨ob, i, pb.cntRow i (pm.syms (R2.take c)), rfl, HOB.out, pb.rep_of_fRow HO.out (pb.cntRow_length _ _) (fun s hs => (pb.cntRow_get _ hs).symm) hn (fun x hx => Nat.le_trans (m2 x hx) (by omega)), pb.cntRow_length _ _, ⟨fun l hl => Nat.le_trans (m2 l hl) hm2, by rw [m1]; exact Nat.le_refl _⟩, m2, ?_, .inl m1, HBW.out⟩;intro s hs h0;exact m3 s hs (by simpa [pb.wt] using h0)
end Go.Proofs.YthpckmcgbmfmcaaGreatDoor
