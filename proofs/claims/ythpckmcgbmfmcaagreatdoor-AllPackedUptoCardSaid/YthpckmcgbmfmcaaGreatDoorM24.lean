/- Texts of this claim, joined. -/
import Derived.Test.YthpckmcgbmfmcaaGreatDoorM23
set_option maxRecDepth 100000
set_option maxHeartbeats 12800000
namespace Go.Proofs.YthpckmcgbmfmcaaGreatDoor
open Go.RowKit Go.Sort
structure In (w : World) (b n c : Nat) (ls : List Nat) : Prop where
 sl : Sl .i64 w (some ⟨b, 0, none⟩) n c (nats ls)
 ty : ∃ cur, w.heap[b]? = some (.cells cur 3 (0, 0))
theorem fr_block {base g : Nat} {w w' : World} {up : Bool} {L : List Bool} {v : Value} (hw : bt.Wr base w g up L v) (hf : bt.Fr base g w w') {b : Nat} {cur : Array Value} {t : TypeId} (h : w.heap[b]? = some (.cells cur t (0, 0))) (h1 : t ≠ 180) (h2 : t ≠ 5) : w'.heap[b]? = some (.cells cur t (0, 0)) := by
 refine hf.others b _ h (by intro e; exact ne_of_types h hw.head h1 (Option.some.inj e)) ?_;intro c fz e;injection e with _ e _
 exact h2 e
theorem fr_below {base : Nat} {w w' : World} (g : Nat) (hs : base <= w.heap.size) (hb : Below w.heap.size w w') : bt.Fr base g w w' := ⟨hb.mono hs, fun _ _ hk _ _ => (hb.block _ (block_lt hk)).trans hk⟩
theorem In.fr {base g : Nat} {w w' : World} {up : Bool} {L : List Bool} {v : Value} (hw : bt.Wr base w g up L v) (hf : bt.Fr base g w w') {b n c : Nat} {ls : List Nat} (h : In w b n c ls) : In w' b n c ls := by
 obtain ⟨cur, hc⟩ := h.ty;have h1 := fr_block hw hf hc (by decide) (by decide);exact ⟨h.sl.same (h1.trans hc.symm), cur, h1⟩
theorem In.below {w w' : World} (hb : Below w.heap.size w w') {b n c : Nat} {ls : List Nat} (h : In w b n c ls) : In w' b n c ls := by
 obtain ⟨cur, hc⟩ := h.ty;exact ⟨h.sl.below hb, cur, (hb.block _ (block_lt hc)).trans hc⟩
theorem In.len {w : World} {b n c : Nat} {ls : List Nat} (h : In w b n c ls) : ls.length = n := by have := h.sl.len; rwa [nats_length] at this
theorem In.cell {w : World} {b n c : Nat} {ls : List Nat} (h : In w b n c ls) {i : Nat} (hi : i < n) : w.cell? ⟨b, i, none⟩ = some (.int .i64 (ls.getD i 0 : Nat)) := by
 obtain ⟨b', off, e, h1⟩ := h.sl.cells (by omega);obtain ⟨rfl, rfl⟩ : b = b' /\ 0 = off := by simpa using e
 have h2 := h1 i hi
 rwa [nats_get, Nat.zero_add] at h2
namespace df
def Piece.cells (p : Piece) : List Value := [.int .u8 p.b, .int .i64 (p.n : Nat), .int .i64 (p.back : Nat)]
def pRow (ps : List Piece) : List Value := ps.flatMap Piece.cells
theorem pRow_get : ∀ (t : List Piece) (i : Nat), (pRow t)[i]? = (t[i / 3]?).bind fun e => e.cells[i % 3]?
 | [], i => by simp [pRow]
 | a :: r, i => by
  show (a.cells ++ pRow r)[i]? = _;have hl : a.cells.length = 3 := rfl;rcases Nat.lt_or_ge i 3 with h | h
  ·rw [List.getElem?_append_left (by omega), show i / 3 = 0 by omega, show i % 3 = i by omega]
   rfl
  ·rw [List.getElem?_append_right (by omega), hl, pRow_get r (i - 3), show i / 3 = (i - 3) / 3 + 1 by omega, List.getElem?_cons_succ, show (i - 3) % 3 = i % 3 by omega]
def Good (p : Piece) : Prop := (0 <= p.b /\ p.b < 256) /\ (p.n ≠ 0 -> 3 <= p.n /\ p.n <= 258 /\ 1 <= p.back /\ p.back <= 32768)
structure Pz (w : World) (a : Option Addr) (n : Nat) (ps : List Piece) : Prop where
 len : ps.length = n
 at' : n = 0 \/ ∃ b cur, a = some ⟨b, 0, none⟩ /\ w.heap[b]? = some (.cells cur 176 (0, 0)) /\ ∀ j, j < n * 3 -> cur[j]? = (pRow ps)[j]?
theorem Pz.fr {base g : Nat} {w w' : World} {up : Bool} {L : List Bool} {v : Value} (hw : bt.Wr base w g up L v) (hf : bt.Fr base g w w') {a : Option Addr} {n : Nat} {ps : List Piece} (h : Pz w a n ps) : Pz w' a n ps := by
 refine ⟨h.len, ?_⟩;rcases h.at' with h1 | ⟨b, cur, e, hc, hr⟩
 ·exact .inl h1
 ·exact .inr ⟨b, cur, e, fr_block hw hf hc (by decide) (by decide), hr⟩
theorem Pz.below {w w' : World} (hb : Below w.heap.size w w') {a : Option Addr} {n : Nat} {ps : List Piece} (h : Pz w a n ps) : Pz w' a n ps := by
 refine ⟨h.len, ?_⟩;rcases h.at' with h1 | ⟨b, cur, e, hc, hr⟩
 ·exact .inl h1
 ·exact .inr ⟨b, cur, e, (hb.block _ (block_lt hc)).trans hc, hr⟩
theorem Pz.cells {w : World} {a : Option Addr} {n : Nat} {ps : List Piece} (h : Pz w a n ps) {i : Nat} {p : Piece} (hp : ps[i]? = some p) : ∃ b, a = some ⟨b, 0, none⟩ /\ w.cell? ⟨b, i * 3, none⟩ = some (.int .u8 p.b) /\ w.cell? ⟨b, i * 3 + 1, none⟩ = some (.int .i64 (p.n : Nat)) /\ w.cell? ⟨b, i * 3 + 2, none⟩ = some (.int .i64 (p.back : Nat)) := by
 have hi := (List.getElem?_eq_some_iff.1 hp).1;have hl := h.len;rcases h.at' with h1 | ⟨b, cur, e, hc, hr⟩
 ·omega
 ·refine ⟨b, e, ?_, ?_, ?_⟩
  ·refine (cell_of_row w b (i * 3) _ _ (0, 0) hc).trans ?_
   rw [hr _ (by omega), pRow_get, show i * 3 / 3 = i by omega, hp, show i * 3 % 3 = 0 by omega];rfl
  ·refine (cell_of_row w b (i * 3 + 1) _ _ (0, 0) hc).trans ?_
   rw [hr _ (by omega), pRow_get, show (i * 3 + 1) / 3 = i by omega, hp, show (i * 3 + 1) % 3 = 1 by omega];rfl
  ·refine (cell_of_row w b (i * 3 + 2) _ _ (0, 0) hc).trans ?_
   rw [hr _ (by omega), pRow_get, show (i * 3 + 2) / 3 = i by omega, hp, show (i * 3 + 2) % 3 = 2 by omega];rfl
theorem sb_length (ls : List Nat) (s : Nat) : (sb ls s).length = ls.getD s 0 := bt.bitsOf_length _ _ _
theorem getD_le16 {ls : List Nat} (h : pf.Ok ls) (s : Nat) : ls.getD s 0 <= 16 := by
 rcases Nat.lt_or_ge s ls.length with h1 | h1
 ·exact h.le _ (pf.getD_mem h1)
 ·rw [List.getD_eq_getElem?_getD, List.getElem?_eq_none h1]
  exact Nat.zero_le _
theorem pieceBits_le {L D : List Nat} (hL : pf.Ok L) (hD : pf.Ok D) {p : Piece} (hp : Good p) : (pieceBits L D p).length <= 64 := by
 unfold pieceBits;split
 ·rw [sb_length]
  have := getD_le16 hL p.b.toNat;omega
 ·rename_i h0
  obtain ⟨h1, h2, h3, h4⟩ := hp.2 h0;have := getD_le16 hL (lenS p.n);have := getD_le16 hD (disS p.back);have := (lenS_range h2).2.2.2;have := (disS_range h4 h3).2;simp only [List.length_append, sb_length, bt.bitsOf_length];omega
theorem flat_le {L D : List Nat} (hL : pf.Ok L) (hD : pf.Ok D) : ∀ {ps : List Piece}, (∀ p ∈ ps, Good p) -> (ps.flatMap (pieceBits L D)).length <= 64 * ps.length
 | [], _ => by simp
 | p :: r, h => by
  have h1 := pieceBits_le hL hD (h p (by simp));have h2 := flat_le hL hD (ps := r) (fun q hq => h q (by simp [hq]));rw [List.flatMap_cons, List.length_append, List.length_cons];omega
theorem sb_cod {ls : List Nat} {n : Nat} (hn : ls.length = n) (s : Nat) : bt.bitsOf true (pf.codF ls n s) (ls.getD s 0) = sb ls s := by
 unfold sb pf.codF;split
 ·rfl
 ·rename_i h
  have h0 : ls.getD s 0 = 0 := by
   rcases Nat.lt_or_ge s n with h1 | h1
   ·exact Decidable.byContradiction fun h2 => h ⟨h1, h2⟩
   ·rw [List.getD_eq_getElem?_getD, List.getElem?_eq_none (by omega)]
    rfl
  rw [h0];rfl
theorem cod_lt {ls : List Nat} (hok : pf.Ok ls) {n : Nat} (hn : ls.length = n) (s : Nat) : pf.codF ls n s < 65536 := by
 unfold pf.codF;split
 ·rename_i h
  have h1 := pf.code_lt hok (s := s) (by omega) (by omega);have h2 : 2 ^ ls.getD s 0 <= 2 ^ 16 := Nat.pow_le_pow_right (by decide) (getD_le16 hok s);omega
 ·decide
end df
theorem take_snocP {ps : List df.Piece} {i : Nat} {p : df.Piece} (h : ps[i]? = some p) : ps.take (i + 1) = ps.take i ++ [p] := by
 rw [List.take_add_one, h];rfl
theorem body_any {base g : Nat} {w : World} {L0 : List Bool} {v : Value} (h : bt.Wr base w g false L0 v) (hb : base <= w.heap.size) (pa : Option Addr) (n pc : Nat) (ps : List df.Piece) (hp : df.Pz w pa n ps) (hg : ∀ p ∈ ps, df.Good p) (lb ln lc : Nat) (L : List Nat) (hl : In w lb ln lc L) (hln : 286 <= ln) (hln2 : ln <= 4096) (hLok : pf.Ok L)
  (db dn dc : Nat) (D : List Nat) (hd : In w db dn dc D) (hdn : 30 <= dn) (hdn2 : dn <= 4096) (hDok : pf.Ok D) (hn : n <= 1099511627) (hL : L0.length + 64 * n + 128 <= 1099511627776) :
  Calls Tryz.prog 54 #[.pointer (some ⟨g, 0, none⟩), .slice pa n pc, .slice (some ⟨lb, 0, none⟩) ln lc, .slice (some ⟨db, 0, none⟩) dn dc] w (df.EmitPost base g false (L0 ++ df.bodyBits L D ps) w) := by
 have CL := hd_ (codes_any _ _ _ _ _ hl.sl hln2 hLok);have CD := hd_ (fun w' (hb : Below w.heap.size w w') => codes_any _ _ _ _ _ (hd.below hb).sl hdn2 hDok);have HW0 := hd_ h;have HP0 := hd_ hp;have HG := hd_ hg;have HL0 := hd_ hl;have HD0 := hd_ hd;have HLK := hd_ hLok;have HDK := hd_ hDok;have HLL := hd_ hl.len;have HDL := hd_ hd.len;have hpl := hp.len;clear h hp hg hl hd hLok hDok;go_enter Tryz.func54, Tryz.ntmps54
 go_wp2_with fail
 refine CL.out.mono ?_;rintro e w1 ⟨cl, rfl, hcl, hc1, hb1⟩;have HC1 := hd_ hc1;have HB1 := hd_ hb1;clear hc1 hb1 CL;go_wp2_with fail
 refine (CD.out w1 HB1.out).mono ?_;rintro e w2 ⟨cd, rfl, hcd, hc2, hb2⟩;have HC2 := hd_ hc2;have HC1 := hd_ ((hb2.block _ (block_lt HC1.out)).trans HC1.out);have HB2 := hd_ (HB1.out.trans (hb2.mono HB1.out.size));clear hc2 hb2 CD HB1;have HP2 := hd_ (HP0.out.below HB2.out);have HL2 := hd_ (HL0.out.below HB2.out);have HD2 := hd_ (HD0.out.below HB2.out);have HW2 := hd_ (HW0.out.below HB2.out);have HF2 : Hid (bt.Fr base g w w2) := hd_ ⟨HB2.out.mono hb, fun _ _ hk _ _ => (HB2.out.block _ (block_lt hk)).trans hk⟩;have HBW : Hid (base <= w2.heap.size) := hd_ (Nat.le_trans hb HB2.out.size);clear HP0 HL0 HD0 HW0 HB2;go_wp2_with fail
 go_loopg [29] n (fun gk s29 wr => ∃ (i : Nat) (v' : Value), i <= n /\ gk = n - i /\ s29 = .int .i64 (i : Nat) /\ bt.Wr base wr g false (L0 ++ (ps.take i).flatMap (df.pieceBits L D)) v' /\ bt.Fr base g w2 wr)
 case atStart => exact ⟨0, v, Nat.zero_le _, rfl, by go_num, by simpa using HW2.out, bt.Fr.refl _ _ _⟩
 case round =>
  obtain ⟨i, v', hi, hgk, rfl, hwr, hfr⟩ := hrel;have Hg := hd_ hgk;have HW := hd_ hwr;have HF := hd_ hfr;have HPr := hd_ (HP2.out.fr HW2.out hfr);have HLr := hd_ (HL2.out.fr HW2.out hfr);have HDr := hd_ (HD2.out.fr HW2.out hfr);have HC1r := hd_ (fr_block HW2.out hfr HC1.out (by decide) (by decide));have HC2r := hd_ (fr_block HW2.out hfr HC2.out (by decide) (by decide));clear hgk hwr hfr;by_cases hlt : i < n
  ·obtain ⟨p, hpe⟩ : ∃ p, ps[i]? = some p := ⟨_, List.getElem?_eq_getElem (by omega)⟩
   obtain ⟨pb, rfl, c0, c1, c2⟩ := HPr.out.cells hpe;go_upto_region 5 with (fail)
   have hgp := HG.out p (List.mem_of_getElem? hpe);have hst := take_snocP hpe;obtain ⟨bn, hbn⟩ : ∃ bn : Nat, p.b.toNat = bn := ⟨_, rfl⟩;have hpb : p.b = (bn : Int) := (by have := hgp.1; omega);have hbn2 : bn < 256 := (by have := hgp.1; omega);have hgm := hgp.2;have EB : Hid (df.pieceBits L D p = if p.n = 0 then df.sb L bn else df.sb L (df.lenS p.n) ++ bt.bitsOf false (df.lenX p.n) (df.lenM p.n) ++ df.sb D (df.disS p.back) ++ bt.bitsOf false (df.disX p.back) (df.disM p.back)) := hd_ (by unfold df.pieceBits; rw [hbn]);have HST := hd_ hst;obtain ⟨nn, hnn⟩ : ∃ x, p.n = x := ⟨_, rfl⟩;obtain ⟨nk, hnk⟩ : ∃ x, p.back = x := ⟨_, rfl⟩;rw [hpb, hnn, hnk];rw [hnn, hnk] at EB;rw [hnn, hnk] at hgm;obtain ⟨M0, eM0⟩ : ∃ x, L0 ++ (ps.take i).flatMap (df.pieceBits L D) = x := ⟨_, rfl⟩;have HLN : Hid (M0.length + 192 <= 1099511627776) := hd_ (by
    have h1 := df.flat_le HLK.out HDK.out (ps := ps.take i) (fun q hq => HG.out q (List.mem_of_mem_take hq));rw [<- eM0, List.length_append];rw [List.length_take] at h1;omega)
   rw [eM0] at HW;have EM0 := hd_ eM0;clear hgp hst hbn hpb hnn hnk eM0 c0 c1 c2;have HBX := hd_ (heap_alloc_new wr (Obj.cells #[.int .u8 (bn : Int), .int .i64 (nn : Nat), .int .i64 (nk : Nat)] 176));have hb3 := (Below.refl wr.heap.size wr).alloc (Nat.le_refl _) (Obj.cells #[.int .u8 (bn : Int), .int .i64 (nn : Nat), .int .i64 (nk : Nat)] 176);generalize wr.alloc (Obj.cells #[.int .u8 (bn : Int), .int .i64 (nn : Nat), .int .i64 (nk : Nat)] 176) = w3 at *;generalize hbx : wr.heap.size = bx at *;rw [<- hbx] at hb3;have HB4 := hd_ hb3;have HPr := hd_ (HPr.out.below HB4.out);have HLr := hd_ (HLr.out.below HB4.out);have HDr := hd_ (HDr.out.below HB4.out);have HC1r := hd_ ((HB4.out.block _ (block_lt HC1r.out)).trans HC1r.out);have HC2r := hd_ ((HB4.out.block _ (block_lt HC2r.out)).trans HC2r.out);have HW := hd_ (HW.out.below HB4.out);have HF := hd_ (HF.out.trans (fr_below g (Nat.le_trans HBW.out HF.out.below.size) HB4.out));clear HB4 hb3 hbx;have c1 := (cr_ w3 1 HBX.out (Value.int .i64 (nn : Nat)) rfl);have c0 := (cr_ w3 0 HBX.out (Value.int .u8 (bn : Int)) rfl);by_cases h0 : nn = 0
   ·rw [if_pos h0] at EB
    subst h0;go_upto_region 6 with (fail)
    have c0 := cell_regrown c0;have u1 : (bn : Int) < (ln : Int) := (by omega);have k1 := fRow_cell HC1r.out (j := bn) (by omega);have k2 := HLr.out.cell (i := bn) (by omega);have kb := df.cod_lt HLK.out HLL.out bn;have kl := df.getD_le16 HLK.out bn;have KS := hd_ (df.sb_cod HLL.out bn);obtain ⟨co, hco⟩ : ∃ x, pf.codF L ln bn = x := ⟨_, rfl⟩;obtain ⟨le, hle⟩ : ∃ x, L.getD bn 0 = x := ⟨_, rfl⟩;rw [hco] at k1 kb KS;rw [hle] at k2 kl KS;clear hco hle;have k1 := cell_regrown k1;have k2 := cell_regrown k2;refine wp_region_quiet_tail 11 (by kernel_rfl) (by kernel_rfl) ?_;simp only [List.take_succ_cons, List.take_zero, List.drop_succ_cons, List.drop_zero]
    repeat (go_big_quiet_step (fail))
    refine wpQuiet_nil ?_;intro _ hw';obtain ⟨⟨dq, osq⟩, hw''⟩ := hw';subst hw'';have hb4 := below_regrown w3 dq osq;clear k1 k2 c0 c1 u1;generalize grow (redrawn w3 dq) osq = w4 at *;have HB4 := hd_ hb4;have HPr := hd_ (HPr.out.below HB4.out);have HLr := hd_ (HLr.out.below HB4.out);have HDr := hd_ (HDr.out.below HB4.out);have HC1r := hd_ ((HB4.out.block _ (block_lt HC1r.out)).trans HC1r.out);have HC2r := hd_ ((HB4.out.block _ (block_lt HC2r.out)).trans HC2r.out);have HW := hd_ (HW.out.below HB4.out);have HBX := hd_ ((HB4.out.block _ (block_lt HBX.out)).trans HBX.out);have HF := hd_ (HF.out.trans (fr_below g (Nat.le_trans HBW.out HF.out.below.size) HB4.out));clear HB4 hb4;have CE := hd_ (emit_any HW.out (Nat.le_trans HBW.out HF.out.below.size) co le (by omega) (by omega) (by have := HLN.out; omega));go_wp2_with fail
    refine CE.out.mono ?_;rintro e w5 ⟨rfl, vq, hw4, hf4⟩;have HF4 := hd_ hf4;have HPr := hd_ (HPr.out.fr HW.out HF4.out);have HLr := hd_ (HLr.out.fr HW.out HF4.out);have HDr := hd_ (HDr.out.fr HW.out HF4.out);have HC1r := hd_ (fr_block HW.out HF4.out HC1r.out (by decide) (by decide));have HC2r := hd_ (fr_block HW.out HF4.out HC2r.out (by decide) (by decide));have HBX := hd_ (fr_block HW.out HF4.out HBX.out (by decide) (by decide));have HF := hd_ (HF.out.trans HF4.out);have HW := hd_ hw4;clear hf4 hw4 HF4;obtain ⟨M1, eM1⟩ : ∃ x, M0 ++ bt.bitsOf true co le = x := ⟨_, rfl⟩;have HLN : Hid (M1.length + 176 <= 1099511627776) := hd_ (by have := HLN.out; rw [<- eM1, List.length_append, bt.bitsOf_length]; omega);rw [eM1] at HW;rw [KS.out] at eM1;have EM1 := hd_ eM1;clear eM1 CE KS kb kl;go_wp2_with fail
    go_roundg (n - (i + 1))
    case measure => have := Hg.out; omega
    case rel =>
     refine ⟨i + 1, vq, by omega, rfl, by go_num, ?_, HF.out⟩;rw [HST.out, List.flatMap_append, List.flatMap_singleton, <- List.append_assoc, EM0.out, EB.out, EM1.out];exact HW.out
   ·have hg2 := hgm h0
    clear c0;have lr := df.lenS_range hg2.2.1;have lx := df.lenX_lt nn;have dr := df.disS_range hg2.2.2.2 hg2.2.2.1;have dx := df.disX_lt nk;have CLn := hd_ (fun w => length_any w nn hg2.1 hg2.2.1);have CDs := hd_ (fun w => distance_any w nk hg2.2.2.1 hg2.2.2.2);rw [if_neg h0] at EB;obtain ⟨ls, hls⟩ : ∃ x, df.lenS nn = x := ⟨_, rfl⟩;obtain ⟨lx', hlx⟩ : ∃ x, df.lenX nn = x := ⟨_, rfl⟩;obtain ⟨lm, hlm⟩ : ∃ x, df.lenM nn = x := ⟨_, rfl⟩;obtain ⟨ds, hds⟩ : ∃ x, df.disS nk = x := ⟨_, rfl⟩;obtain ⟨dx', hdx⟩ : ∃ x, df.disX nk = x := ⟨_, rfl⟩;obtain ⟨dm, hdm⟩ : ∃ x, df.disM nk = x := ⟨_, rfl⟩;rw [hls, hlx, hlm] at CLn;rw [hds, hdx, hdm] at CDs;rw [hls, hlx, hlm, hds, hdx, hdm] at EB;rw [hls, hlm] at lr;rw [hlx, hlm] at lx;rw [hds, hdm] at dr;rw [hdx, hdm] at dx;have p1 : 2 ^ lm <= 2 ^ 5 := Nat.pow_le_pow_right (by decide) lr.2.2.2;have p2 : 2 ^ dm <= 2 ^ 13 := Nat.pow_le_pow_right (by decide) dr.2;have a1 : ls <= 285 := lr.2.1;have a2 : lm <= 5 := lr.2.2.2;have a3 : lx' < 32 := (by omega);have a4 : ds <= 29 := dr.1;have a5 : dm <= 13 := dr.2;have a6 : dx' < 8192 := (by omega);clear lr lx dr dx hls hlx hlm hds hdx hdm p1 p2 hg2 hgm;go_wp2_with fail
    refine (CLn.out _).mono ?_;rintro e w4 ⟨rfl, hb3⟩;have HB4 := hd_ hb3;have HPr := hd_ (HPr.out.below HB4.out);have HLr := hd_ (HLr.out.below HB4.out);have HDr := hd_ (HDr.out.below HB4.out);have HC1r := hd_ ((HB4.out.block _ (block_lt HC1r.out)).trans HC1r.out);have HC2r := hd_ ((HB4.out.block _ (block_lt HC2r.out)).trans HC2r.out);have HW := hd_ (HW.out.below HB4.out);have HBX := hd_ ((HB4.out.block _ (block_lt HBX.out)).trans HBX.out);have HF := hd_ (HF.out.trans (fr_below g (Nat.le_trans HBW.out HF.out.below.size) HB4.out));clear HB4 hb3;clear c1 CLn;have u1 : (ls : Int) < (ln : Int) := (by omega);go_upto_region 8 with (fail)
    have k1 := fRow_cell HC1r.out (j := ls) (by omega);have k2 := HLr.out.cell (i := ls) (by omega);have kb := df.cod_lt HLK.out HLL.out ls;have kl := df.getD_le16 HLK.out ls;have KS := hd_ (df.sb_cod HLL.out ls);obtain ⟨co, hco⟩ : ∃ x, pf.codF L ln ls = x := ⟨_, rfl⟩;obtain ⟨le, hle⟩ : ∃ x, L.getD ls 0 = x := ⟨_, rfl⟩;rw [hco] at k1 kb KS;rw [hle] at k2 kl KS;clear hco hle;have k1 := cell_regrown k1;have k2 := cell_regrown k2;refine wp_region_quiet_tail 9 (by kernel_rfl) (by kernel_rfl) ?_;simp only [List.take_succ_cons, List.take_zero, List.drop_succ_cons, List.drop_zero]
    repeat (go_big_quiet_step (fail))
    refine wpQuiet_nil ?_;intro _ hw';obtain ⟨⟨dq, osq⟩, hw''⟩ := hw';subst hw'';have hb4 := below_regrown w4 dq osq;clear k1 k2 u1;generalize grow (redrawn w4 dq) osq = w5 at *;have HB4 := hd_ hb4;have HPr := hd_ (HPr.out.below HB4.out);have HLr := hd_ (HLr.out.below HB4.out);have HDr := hd_ (HDr.out.below HB4.out);have HC1r := hd_ ((HB4.out.block _ (block_lt HC1r.out)).trans HC1r.out);have HC2r := hd_ ((HB4.out.block _ (block_lt HC2r.out)).trans HC2r.out);have HW := hd_ (HW.out.below HB4.out);have HBX := hd_ ((HB4.out.block _ (block_lt HBX.out)).trans HBX.out);have HF := hd_ (HF.out.trans (fr_below g (Nat.le_trans HBW.out HF.out.below.size) HB4.out));clear HB4 hb4;have CE := hd_ (emit_any HW.out (Nat.le_trans HBW.out HF.out.below.size) co le (by omega) (by omega) (by have := HLN.out; omega));go_wp2_with fail
    refine CE.out.mono ?_;rintro e w6 ⟨rfl, vq, hw4, hf4⟩;have HF4 := hd_ hf4;have HPr := hd_ (HPr.out.fr HW.out HF4.out);have HLr := hd_ (HLr.out.fr HW.out HF4.out);have HDr := hd_ (HDr.out.fr HW.out HF4.out);have HC1r := hd_ (fr_block HW.out HF4.out HC1r.out (by decide) (by decide));have HC2r := hd_ (fr_block HW.out HF4.out HC2r.out (by decide) (by decide));have HBX := hd_ (fr_block HW.out HF4.out HBX.out (by decide) (by decide));have HF := hd_ (HF.out.trans HF4.out);have HW := hd_ hw4;clear hf4 hw4 HF4;obtain ⟨M2, eM2⟩ : ∃ x, M0 ++ bt.bitsOf true co le = x := ⟨_, rfl⟩;have HLN : Hid (M2.length + 176 <= 1099511627776) := hd_ (by have := HLN.out; rw [<- eM2, List.length_append, bt.bitsOf_length]; omega);rw [eM2] at HW;rw [KS.out] at eM2;have EM2 := hd_ eM2;clear eM2 CE KS kb kl;have CP := hd_ (put_any HW.out (Nat.le_trans HBW.out HF.out.below.size) lx' lm (by omega) (by omega) (by have := HLN.out; omega));go_wp2_with fail
    refine CP.out.mono ?_;rintro e w7 ⟨rfl, vq, hw4, hf4⟩;have HF4 := hd_ hf4;have HPr := hd_ (HPr.out.fr HW.out HF4.out);have HLr := hd_ (HLr.out.fr HW.out HF4.out);have HDr := hd_ (HDr.out.fr HW.out HF4.out);have HC1r := hd_ (fr_block HW.out HF4.out HC1r.out (by decide) (by decide));have HC2r := hd_ (fr_block HW.out HF4.out HC2r.out (by decide) (by decide));have HBX := hd_ (fr_block HW.out HF4.out HBX.out (by decide) (by decide));have HF := hd_ (HF.out.trans HF4.out);have HW := hd_ hw4;clear hf4 hw4 HF4;obtain ⟨M3, eM3⟩ : ∃ x, M2 ++ bt.bitsOf false lx' lm = x := ⟨_, rfl⟩;have HLN : Hid (M3.length + 171 <= 1099511627776) := hd_ (by have := HLN.out; rw [<- eM3, List.length_append, bt.bitsOf_length]; omega);rw [eM3] at HW;have EM3 := hd_ eM3;clear eM3 CP;have c2 := (cr_ w7 2 HBX.out (Value.int .i64 (nk : Nat)) rfl);go_wp2_with fail
    refine (CDs.out _).mono ?_;rintro e w8 ⟨rfl, hb3⟩;have HB4 := hd_ hb3;have HPr := hd_ (HPr.out.below HB4.out);have HLr := hd_ (HLr.out.below HB4.out);have HDr := hd_ (HDr.out.below HB4.out);have HC1r := hd_ ((HB4.out.block _ (block_lt HC1r.out)).trans HC1r.out);have HC2r := hd_ ((HB4.out.block _ (block_lt HC2r.out)).trans HC2r.out);have HW := hd_ (HW.out.below HB4.out);have HBX := hd_ ((HB4.out.block _ (block_lt HBX.out)).trans HBX.out);have HF := hd_ (HF.out.trans (fr_below g (Nat.le_trans HBW.out HF.out.below.size) HB4.out));clear HB4 hb3;clear c2 CDs;have u1 : (ds : Int) < (dn : Int) := (by omega);go_upto_region 11 with (fail)
    have k1 := fRow_cell HC2r.out (j := ds) (by omega);have k2 := HDr.out.cell (i := ds) (by omega);have kb := df.cod_lt HDK.out HDL.out ds;have kl := df.getD_le16 HDK.out ds;have KS := hd_ (df.sb_cod HDL.out ds);obtain ⟨co, hco⟩ : ∃ x, pf.codF D dn ds = x := ⟨_, rfl⟩;obtain ⟨le, hle⟩ : ∃ x, D.getD ds 0 = x := ⟨_, rfl⟩;rw [hco] at k1 kb KS;rw [hle] at k2 kl KS;clear hco hle;have k1 := cell_regrown k1;have k2 := cell_regrown k2;refine wp_region_quiet_tail 9 (by kernel_rfl) (by kernel_rfl) ?_;simp only [List.take_succ_cons, List.take_zero, List.drop_succ_cons, List.drop_zero]
    repeat (go_big_quiet_step (fail))
    refine wpQuiet_nil ?_;intro _ hw';obtain ⟨⟨dq, osq⟩, hw''⟩ := hw';subst hw'';have hb4 := below_regrown w8 dq osq;clear k1 k2 u1;generalize grow (redrawn w8 dq) osq = w9 at *;have HB4 := hd_ hb4;have HPr := hd_ (HPr.out.below HB4.out);have HLr := hd_ (HLr.out.below HB4.out);have HDr := hd_ (HDr.out.below HB4.out);have HC1r := hd_ ((HB4.out.block _ (block_lt HC1r.out)).trans HC1r.out);have HC2r := hd_ ((HB4.out.block _ (block_lt HC2r.out)).trans HC2r.out);have HW := hd_ (HW.out.below HB4.out);have HBX := hd_ ((HB4.out.block _ (block_lt HBX.out)).trans HBX.out);have HF := hd_ (HF.out.trans (fr_below g (Nat.le_trans HBW.out HF.out.below.size) HB4.out));clear HB4 hb4;have CE := hd_ (emit_any HW.out (Nat.le_trans HBW.out HF.out.below.size) co le (by omega) (by omega) (by have := HLN.out; omega));go_wp2_with fail
    refine CE.out.mono ?_;rintro e w10 ⟨rfl, vq, hw4, hf4⟩;have HF4 := hd_ hf4;have HPr := hd_ (HPr.out.fr HW.out HF4.out);have HLr := hd_ (HLr.out.fr HW.out HF4.out);have HDr := hd_ (HDr.out.fr HW.out HF4.out);have HC1r := hd_ (fr_block HW.out HF4.out HC1r.out (by decide) (by decide));have HC2r := hd_ (fr_block HW.out HF4.out HC2r.out (by decide) (by decide));have HBX := hd_ (fr_block HW.out HF4.out HBX.out (by decide) (by decide));have HF := hd_ (HF.out.trans HF4.out);have HW := hd_ hw4;clear hf4 hw4 HF4;obtain ⟨M4, eM4⟩ : ∃ x, M3 ++ bt.bitsOf true co le = x := ⟨_, rfl⟩;have HLN : Hid (M4.length + 155 <= 1099511627776) := hd_ (by have := HLN.out; rw [<- eM4, List.length_append, bt.bitsOf_length]; omega);rw [eM4] at HW;rw [KS.out] at eM4;have EM4 := hd_ eM4;clear eM4 CE KS kb kl;have CP := hd_ (put_any HW.out (Nat.le_trans HBW.out HF.out.below.size) dx' dm (by omega) (by omega) (by have := HLN.out; omega));go_wp2_with fail
    refine CP.out.mono ?_;rintro e w11 ⟨rfl, vq, hw4, hf4⟩;have HF4 := hd_ hf4;have HPr := hd_ (HPr.out.fr HW.out HF4.out);have HLr := hd_ (HLr.out.fr HW.out HF4.out);have HDr := hd_ (HDr.out.fr HW.out HF4.out);have HC1r := hd_ (fr_block HW.out HF4.out HC1r.out (by decide) (by decide));have HC2r := hd_ (fr_block HW.out HF4.out HC2r.out (by decide) (by decide));have HBX := hd_ (fr_block HW.out HF4.out HBX.out (by decide) (by decide));have HF := hd_ (HF.out.trans HF4.out);have HW := hd_ hw4;clear hf4 hw4 HF4;obtain ⟨M5, eM5⟩ : ∃ x, M4 ++ bt.bitsOf false dx' dm = x := ⟨_, rfl⟩;have HLN : Hid (M5.length + 140 <= 1099511627776) := hd_ (by have := HLN.out; rw [<- eM5, List.length_append, bt.bitsOf_length]; omega);rw [eM5] at HW;have EM5 := hd_ eM5;clear eM5 CP;go_wp2_with fail
    go_roundg (n - (i + 1))
    case measure => have := Hg.out; omega
    case rel =>
     refine ⟨i + 1, vq, by omega, rfl, by go_num, ?_, HF.out⟩;rw [HST.out, List.flatMap_append, List.flatMap_singleton, <- List.append_assoc, EM0.out, EB.out, <- List.append_assoc, <- List.append_assoc, <- List.append_assoc, EM2.out, EM3.out, EM4.out, EM5.out];exact HW.out
  ·obtain rfl : i = n := by omega
   obtain ⟨M0, eM0⟩ : ∃ x, L0 ++ (ps.take i).flatMap (df.pieceBits L D) = x := ⟨_, rfl⟩;have HLN : Hid (M0.length + 128 <= 1099511627776) := hd_ (by
    have h1 := df.flat_le HLK.out HDK.out (ps := ps.take i) (fun q hq => HG.out q (List.mem_of_mem_take hq));rw [<- eM0, List.length_append];rw [List.length_take] at h1;omega)
   rw [eM0] at HW;rw [List.take_of_length_le (Nat.le_of_eq hpl)] at eM0;have EM0 := hd_ eM0;clear eM0;go_upto_region 14 with (fail)
   have u1 : (256 : Int) < (ln : Int) := (by omega);have k1 := fRow_cell HC1r.out (j := 256) (by omega);have k2 := HLr.out.cell (i := 256) (by omega);have kb := df.cod_lt HLK.out HLL.out 256;have kl := df.getD_le16 HLK.out 256;have KS := hd_ (df.sb_cod HLL.out 256);obtain ⟨co, hco⟩ : ∃ x, pf.codF L ln 256 = x := ⟨_, rfl⟩;obtain ⟨le, hle⟩ : ∃ x, L.getD 256 0 = x := ⟨_, rfl⟩;rw [hco] at k1 kb KS;rw [hle] at k2 kl KS;clear hco hle;have k1 := cell_regrown k1;have k2 := cell_regrown k2;refine wp_region_quiet_tail 7 (by kernel_rfl) (by kernel_rfl) ?_;simp only [List.take_succ_cons, List.take_zero, List.drop_succ_cons, List.drop_zero]
   repeat (go_big_quiet_step (fail))
   refine wpQuiet_nil ?_;intro _ hw';obtain ⟨⟨dq, osq⟩, hw''⟩ := hw';subst hw'';have hb4 := below_regrown wr dq osq;clear k1 k2 u1;generalize grow (redrawn wr dq) osq = w4 at *;have HB4 := hd_ hb4;have HPr := hd_ (HPr.out.below HB4.out);have HLr := hd_ (HLr.out.below HB4.out);have HDr := hd_ (HDr.out.below HB4.out);have HC1r := hd_ ((HB4.out.block _ (block_lt HC1r.out)).trans HC1r.out);have HC2r := hd_ ((HB4.out.block _ (block_lt HC2r.out)).trans HC2r.out);have HW := hd_ (HW.out.below HB4.out);have HF := hd_ (HF.out.trans (fr_below g (Nat.le_trans HBW.out HF.out.below.size) HB4.out));clear HB4 hb4;have CE := hd_ (emit_any HW.out (Nat.le_trans HBW.out HF.out.below.size) co le (by omega) (by omega) (by have := HLN.out; omega));go_wp2_with fail
   refine CE.out.mono ?_;rintro e w5 ⟨rfl, vq, hw4, hf4⟩;have HF4 := hd_ hf4;have HPr := hd_ (HPr.out.fr HW.out HF4.out);have HLr := hd_ (HLr.out.fr HW.out HF4.out);have HDr := hd_ (HDr.out.fr HW.out HF4.out);have HC1r := hd_ (fr_block HW.out HF4.out HC1r.out (by decide) (by decide));have HC2r := hd_ (fr_block HW.out HF4.out HC2r.out (by decide) (by decide));have HF := hd_ (HF.out.trans HF4.out);have HW := hd_ hw4;clear hf4 hw4 HF4;obtain ⟨M6, eM6⟩ : ∃ x, M0 ++ bt.bitsOf true co le = x := ⟨_, rfl⟩;have HLN : Hid (M6.length + 100 <= 1099511627776) := hd_ (by have := HLN.out; rw [<- eM6, List.length_append, bt.bitsOf_length]; omega);rw [eM6] at HW;rw [KS.out] at eM6;have EM6 := hd_ eM6;clear eM6 CE KS kb kl;go_wp2_with fail
   refine bodyPost_end (results_none rfl _ _ _) rfl ⟨rfl, vq, ?_, HF2.out.trans HF.out⟩;unfold df.bodyBits;rw [<- List.append_assoc, EM0.out, EM6.out];exact HW.out
end Go.Proofs.YthpckmcgbmfmcaaGreatDoor
