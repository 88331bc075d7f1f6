/- Texts of this claim, joined. -/
import Derived.Test.YthpckmcgbmfmcaaGreatDoorM49
import Derived.Deep.CutBlock
import Derived.Deep.RegionHeld3
set_option maxRecDepth 100000
set_option maxHeartbeats 12800000
namespace Go.Proofs.YthpckmcgbmfmcaaGreatDoor
open Go.RowKit Go.Sort
def lz.aheadV : Option Nat -> Int
 | none => -1
 | some a => (a : Nat)
structure lz.Mem (k : lz.K) (up : Bool) (L : List Bool) (w : World) (b1 b2 g tb sb n c kb pos : Nat) (tab : List lz.E) (v : Value) (out : List Int) (wr : World) : Prop where
 tab : lz.Tab b1 wr tb tab
 row : wr.ownsRow b2 5 1 v out.length (out.map (Value.int .u8))
 rd : bt.Rr wr g up (bt.bytes up L) pos sb n c
 kind : wr.heap[kb]? = some (.cells #[.int .i64 (k.clear : Nat), .int .i64 (k.width : Nat), .bool up, .int .i64 (k.early : Nat)] 71 (0, 0))
 below : Below kb w wr
 big : b2 <= wr.heap.size
def lz.UnpRel (k : lz.K) (up : Bool) (T : List (Nat × Nat)) (l : List Int) (w : World) (b1 b2 g tb sb n c kb : Nat) (gk : Nat) (s9 s10 s11 s12 : Value) (wr : World) : Prop :=
 ∃ (pre rest : List (Nat × Nat)) (st stE : lz.St), T = pre ++ rest ++ [(k.clear + 1, stE.width)] /\ gk = rest.length /\ lz.Runs k st rest stE /\ stE.out = l /\ (∃ u, st.tab = lz.entries k ++ u) /\
  s9 = .slice (some ⟨tb, 0, none⟩) st.tab.length 4096 /\ s10 = .int .i64 (st.width : Nat) /\ s11 = .int .i64 (lz.aheadV st.ahead) /\
  lz.Mem k up (lz.bitsOfAll up T) w b1 b2 g tb sb n c kb (lz.bitsOfAll up pre).length st.tab s12 st.out wr
theorem lz.bitsOfAll_append (up : Bool) (A B : List (Nat × Nat)) : lz.bitsOfAll up (A ++ B) = lz.bitsOfAll up A ++ lz.bitsOfAll up B := by simp [lz.bitsOfAll]
theorem lz.token (up : Bool) (pre post : List (Nat × Nat)) (c m : Nat) (hc : c < 2 ^ m) : bt.valTo up (lz.bitsOfAll up (pre ++ (c, m) :: post)) (lz.bitsOfAll up pre).length m = c /\ (lz.bitsOfAll up pre).length + m <= (lz.bitsOfAll up (pre ++ (c, m) :: post)).length := by
 rw [lz.bitsOfAll_append, lz.bitsOfAll_cons];constructor
 ·rw [<- List.append_assoc]
  exact bt.val_bits up _ _ c m hc
 ·rw [List.length_append, List.length_append, bt.bitsOf_length]
  omega
theorem take_tok {w : World} {g : Nat} {up : Bool} {T pre post : List (Nat × Nat)} {c m sb n cp : Nat} (h : bt.Rr w g up (bt.bytes up (lz.bitsOfAll up T)) (lz.bitsOfAll up pre).length sb n cp) (hT : T = pre ++ (c, m) :: post) (hc : c < 2 ^ m) (hm : m <= 12) (hn : n = ((lz.bitsOfAll up T).length + 7) / 8) :
  Calls Tryz.prog 77 #[.pointer (some ⟨g, 0, none⟩), .int .i64 m] w fun e w' => e = .returned (.tuple #[.int .u32 (c : Nat), .int .i64 0]) /\ bt.Rr w' g up (bt.bytes up (lz.bitsOfAll up T)) (lz.bitsOfAll up (pre ++ [(c, m)])).length sb n cp /\ w.grownBy w' (some g) := by
 have htok := lz.token up pre post c m hc;rw [<- hT] at htok;refine (take_any h hn m (by omega) (by omega)).mono ?_;rintro e w2 ⟨rfl, h2, h3⟩;rw [htok.1];refine ⟨rfl, ?_, h3⟩;rw [lz.bitsOfAll_snoc, List.length_append, bt.bitsOf_length];exact h2
theorem lz.Mem.take {k : lz.K} {up : Bool} {L : List Bool} {w : World} {b1 b2 g tb sb n c kb pos pos' : Nat} {tab : List lz.E} {v : Value} {out : List Int} {wr w2 : World} (h : lz.Mem k up L w b1 b2 g tb sb n c kb pos tab v out wr) (hkg : kb <= g)
  (hr : bt.Rr w2 g up (bt.bytes up L) pos' sb n c) (hg : wr.grownBy w2 (some g)) : lz.Mem k up L w b1 b2 g tb sb n c kb pos' tab v out w2 := by
 obtain ⟨htb, cur, hcur, _⟩ := h.tab.block;have n1 : tb ≠ g := ne_of_types hcur h.rd.head (by decide);have n2 : kb ≠ g := ne_of_types h.kind h.rd.head (by decide);exact ⟨h.tab.kept hg (by intro e; exact n1 (Option.some.inj e)), h.row.kept hg (row_apart h.row h.rd.head (by decide)), hr, (hg.block _ (block_lt h.kind) (by intro e; exact n2 (Option.some.inj e))).trans h.kind, h.below.grown hg (by have := h.below.size; have := block_lt h.kind; omega) (fun j e => by cases e; exact hkg), Nat.le_trans h.big hg.size⟩
theorem lz.Mem.grow {k : lz.K} {up : Bool} {L : List Bool} {w : World} {b1 b2 g tb sb n c kb pos : Nat} {tab : List lz.E} {v : Value} {out : List Int} {wr w2 : World} (h : lz.Mem k up L w b1 b2 g tb sb n c kb pos tab v out wr)
  (hb : Below wr.heap.size wr w2) : lz.Mem k up L w b1 b2 g tb sb n c kb pos tab v out w2 :=
 ⟨h.tab.below hb, ownsRow_below h.row hb, h.rd.below hb, (hb.block _ (block_lt h.kind)).trans h.kind, h.below.trans (hb.mono (by have := h.below.size; have := block_lt h.kind; omega)), Nat.le_trans h.big hb.size⟩
theorem lz.Mem.cut {k : lz.K} {up : Bool} {L : List Bool} {w : World} {b1 b2 g tb sb n c kb pos : Nat} {tab : List lz.E} {v : Value} {out : List Int} {wr : World} (h : lz.Mem k up L w b1 b2 g tb sb n c kb pos tab v out wr) {m : Nat} (hm : m <= tab.length) : lz.Mem k up L w b1 b2 g tb sb n c kb pos (tab.take m) v out wr :=
 ⟨h.tab.take hm, h.row, h.rd, h.kind, h.below, h.big⟩
theorem run_append_tab (w : World) (ty : TypeId) (base b : Nat) (t : List lz.E) (e : lz.E) (h : lz.Tab base w b t) (ht : t.length < 4096) (g : Nat) (hg : w.heap[g]? = some (.cells #[.int .i64 e.ahead, .int .u8 e.last, .int .u8 e.first, .int .i64 (e.n : Nat)] 151 (0, 0))) :
  ∃ v' w', (Builtin.append_ #[147, 147] ty #[.slice (some ⟨b, 0, none⟩) t.length 4096, .slice (some ⟨g, 0, none⟩) 1 1]).run Tryz.prog w = .ok v' w' /\ (v' = .slice (some ⟨b, 0, none⟩) (t.length + 1) 4096 /\ lz.Tab base w' b (t ++ [e]) /\ w.grownBy w' (some b)) := by
 obtain ⟨w', h1, h2, h3⟩ := tab_append w ty base b t e h ht g hg;exact ⟨_, w', h1, rfl, h2, h3⟩
theorem lz.Mem.app {k : lz.K} {up : Bool} {L : List Bool} {w : World} {b1 b2 g tb sb n c kb pos : Nat} {tab tab' : List lz.E} {v : Value} {out : List Int} {wr w2 : World} (h : lz.Mem k up L w b1 b2 g tb sb n c kb pos tab v out wr)
  (hsb : sb < b1) (hkb : kb <= b1) (ht : lz.Tab b1 w2 tb tab') (hg : wr.grownBy w2 (some tb)) : lz.Mem k up L w b1 b2 g tb sb n c kb pos tab' v out w2 := by
 obtain ⟨htb, cur, hcur, _⟩ := h.tab.block;have n1 : g ≠ tb := ne_of_types h.rd.head hcur (by decide);have n2 : kb ≠ tb := ne_of_types h.kind hcur (by decide);exact ⟨ht, h.row.kept hg (row_apart h.row hcur (by decide)), ⟨(hg.block _ (block_lt h.rd.head) (by intro e; exact n1 (Option.some.inj e))).trans h.rd.head, h.rd.data.grown hg (by intro e; have := Option.some.inj e; omega), h.rd.apart, h.rd.small⟩,
  (hg.block _ (block_lt h.kind) (by intro e; exact n2 (Option.some.inj e))).trans h.kind, h.below.grown hg (by have := h.below.size; have := block_lt h.kind; omega) (fun j e => by cases e; omega), Nat.le_trans h.big hg.size⟩
theorem bump_facts {k : lz.K} (hke : k.early <= 1) (N width : Nat) (hw : width <= 12) : ∃ p2 z : Nat, IntKind.i64.wrap (2 ^ width) = (p2 : Int) /\ IntKind.i64.wrap ((p2 : Int) - (k.early : Int)) = (z : Int) /\ lz.bump k N width = if N = z /\ width < 12 then width + 1 else width := by
 have hpw : 2 ^ width <= 2 ^ 12 := Nat.pow_le_pow_right (by decide) hw;have hpw1 : 1 <= 2 ^ width := Nat.one_le_two_pow;refine ⟨2 ^ width, 2 ^ width - k.early, ?_, ?_, ?_⟩
 ·have e1 : ((2 : Int) ^ width) = ((2 ^ width : Nat) : Int) := by simp
  rw [e1];generalize 2 ^ width = p at *;exact i64i (by omega)
 ·generalize 2 ^ width = p at *
  exact i64o (by omega) (by omega)
 ·unfold lz.bump
  generalize 2 ^ width = p at *;have e : (N + k.early = p) ↔ (N = p - k.early) := by omega
  simp only [e]
theorem lz.Mem.rowed {k : lz.K} {up : Bool} {L : List Bool} {w : World} {b1 b2 g tb sb n c kb pos : Nat} {tab : List lz.E} {v v' : Value} {out out' : List Int} {wr w2 : World} (h : lz.Mem k up L w b1 b2 g tb sb n c kb pos tab v out wr)
  (hsb : sb < b2) (hkb : kb <= b2) (hr : w2.ownsRow b2 5 1 v' out'.length (out'.map (Value.int .u8))) (hg : wr.grownBy w2 v.ownBlock) : lz.Mem k up L w b1 b2 g tb sb n c kb pos tab v' out' w2 := by
 obtain ⟨htb, cur, hcur, _⟩ := h.tab.block;have ne : ∀ {i : Nat} {a : Array Value} {t : TypeId}, wr.heap[i]? = some (.cells a t (0, 0)) -> t ≠ 5 -> some i ≠ v.ownBlock := by
  intro i a t h1 h2;rcases row_apart h.row h1 h2 with e | e
  ·rw [e]; simp
  ·exact Ne.symm e
 have hlt := World.ownsRow.lt h.row;exact ⟨h.tab.kept hg (ne hcur (by decide)), hr, ⟨(hg.block _ (block_lt h.rd.head) (ne h.rd.head (by decide))).trans h.rd.head, h.rd.data.grown hg (by intro e; have := (hlt _ e.symm).1; omega), h.rd.apart, h.rd.small⟩,
  (hg.block _ (block_lt h.kind) (ne h.kind (by decide))).trans h.kind, h.below.grown hg (by have := h.below.size; have := block_lt h.kind; omega) (fun j e => Nat.le_trans hkb (hlt _ e).1), Nat.le_trans h.big hg.size⟩
def lz.UnpPost (l : List Int) (w : World) (e : Ending) (w' : World) : Prop := ∃ v, e = .returned (.tuple #[v, .int .i64 0]) /\ w'.ownsRow w.heap.size 5 1 v l.length (l.map (Value.int .u8)) /\ Below w.heap.size w w'
theorem unpack_any (k : lz.K) (hk : k.Good) (up : Bool) (T : List (Nat × Nat)) (l : List Int) (hT : lz.Tells k T l) (b off n cap : Nat) (w : World) (h : Sl .u8 w (some ⟨b, off, none⟩) n cap (bt.bytes up (lz.bitsOfAll up T))) (hn : n <= 137438953472) (M : Nat) (hM : l.length <= M) (hM2 : M <= 1099511627776) :
  Calls Tryz.prog 32 #[.agg #[.int .i64 (k.clear : Nat), .int .i64 (k.width : Nat), .bool up, .int .i64 (k.early : Nat)], .slice (some ⟨b, off, none⟩) n cap, .int .i64 (M : Nat)] w (lz.UnpPost l w) := by
 have HK := hd_ hk;have HS := hd_ h;have HT := hd_ hT;have hln : n = ((lz.bitsOfAll up T).length + 7) / 8 := by have := h.len; rw [bt.bytes_length] at this; omega
 have HLN := hd_ hln;have hkm := hk.most;have q0 := heap_alloc_new w (.cells #[.int .i64 (k.clear : Nat), .int .i64 (k.width : Nat), .bool up, .int .i64 (k.early : Nat)] 71 (0, 0));have B0 := hd_ ((Below.refl w.heap.size w).alloc (Nat.le_refl _) (.cells #[.int .i64 (k.clear : Nat), .int .i64 (k.width : Nat), .bool up, .int .i64 (k.early : Nat)] 71));have KB := hd_ q0;have hsz : (w.alloc (.cells #[.int .i64 (k.clear : Nat), .int .i64 (k.width : Nat), .bool up, .int .i64 (k.early : Nat)] 71)).heap.size = w.heap.size + 1 := by simp
 have HSZ := hd_ hsz;clear h hT hln q0 hsz;go_enter Tryz.func32, Tryz.ntmps32
 go_upto_region 1 with (fail)
 obtain ⟨kb, hkb⟩ : ∃ kb, w.heap.size = kb := ⟨_, rfl⟩;rw [hkb] at B0 KB HSZ ⊢;have HKB := hd_ hkb;clear hkb;generalize w.alloc (.cells #[.int .i64 (k.clear : Nat), .int .i64 (k.width : Nat), .bool up, .int .i64 (k.early : Nat)] 71) = w0 at *;have c2 := (cr_ w0 2 KB.out (Value.bool up) rfl);have hsl0 := HS.out.below (by rw [HKB.out]; exact B0.out);go_wp2_with fail
 refine (newReader_any up b off n cap _ w0 hsl0 hn).mono ?_;rintro e w1 ⟨g, sb, c, rfl, hrr, hg0, hsb0, hb1⟩;have HRR := hd_ hrr;have HB1 := hd_ (B0.out.trans (hb1.mono (by have := HSZ.out; omega)));have KB1 := hd_ ((hb1.block _ (by have := HSZ.out; omega)).trans KB.out);have HW1 := hd_ (And.intro hg0 (And.intro hsb0 (And.intro (block_lt hrr.head) hb1.size)));clear c2 hsl0 hrr hg0 hsb0 hb1;go_upto_region 2 with (fail)
 have d1 := (cr_ w1 1 KB1.out (Value.int .i64 (k.width : Nat)) rfl);have d0 := (cr_ w1 0 KB1.out (Value.int .i64 (k.clear : Nat)) rfl);have d2 := (cr_ w1 2 KB1.out (Value.bool up) rfl);have d3 := (cr_ w1 3 KB1.out (Value.int .i64 (k.early : Nat)) rfl);go_cut [9, 10, 11] from 23 to 26 (fun s9 s10 s11 wx => ∃ tb, s9 = .slice (some ⟨tb, 0, none⟩) (k.clear + 2) 4096 /\ s10 = .int .i64 (k.width : Nat) /\ s11 = .int .i64 (-1) /\ lz.Tab w1.heap.size wx tb (lz.entries k) /\ Below w1.heap.size w1 wx)
 case first =>
  go_region_with (first
   | (go_at_call 76; refine (entries_any k HK.out up _).mono ?_; rintro e w2 ⟨tb, rfl, ht, hb2⟩; have HT2 := hd_ ht; have HB2 := hd_ hb2; have d4 := keep_cell hb2 d1; clear ht hb2))
  all_goals (go_wp2_with fail; go_meet; exact ⟨tb, rfl, rfl, rfl, HT2.out, (Below.drew (Below.refl _ _)).trans HB2.out⟩)
 case rest =>
  obtain ⟨tb, rfl, rfl, rfl, ht, hb2⟩ := hcut;have HTB := hd_ ht;have HB2 := hd_ hb2;clear ht hb2 d0 d1 d2 d3;go_wp2_with fail
  have hb1s : w1.heap.size <= wc.heap.size := HB2.out.size;obtain ⟨b2, hb2e⟩ : ∃ b2, wc.heap.size = b2 := ⟨_, rfl⟩;have HMEM := hd_ (show lz.Mem k up (lz.bitsOfAll up T) w w1.heap.size b2 g tb sb n c kb 0 (lz.entries k) (.slice none 0 0) [] wc from
   ⟨HTB.out, World.ownsRow_nil _ _ _ _, HRR.out.below HB2.out, (HB2.out.block _ (block_lt KB1.out)).trans KB1.out, HB1.out.trans (HB2.out.mono (by have := HW1.out.2.2.2; have := HSZ.out; omega)), by omega⟩)
  obtain ⟨T0, stE, hTe, hrun, hout, hfits⟩ := HT.out;have hnsb : sb < b2 := by have := HRR.out.apart; have := HW1.out.2.2.1; omega
  have HRA := hd_ (show sb < w1.heap.size by have := HRR.out.apart; have := HW1.out.2.2.1; omega);rw [hb2e] at hb1s;clear hb2e;have hnsg : kb <= g /\ kb <= w1.heap.size := by have := HW1.out; have := HSZ.out; omega
  have HFI := hd_ hfits;clear HTB HB2 HRR HB1 KB1;go_loopg [9, 10, 11, 12] T0.length (fun gk s9 s10 s11 s12 wr => lz.UnpRel k up T l w w1.heap.size b2 g tb sb n c kb gk s9 s10 s11 s12 wr)
  case atStart => exact ⟨[], T0, lz.start k [], stE, by simpa using hTe, rfl, hrun, hout, ⟨[], by simp [lz.start]⟩, by rw [show (lz.start k []).tab = lz.entries k from rfl, lz.entries_length], rfl, rfl, HMEM.out⟩
  case round =>
   clear hTe hrun hout hfits HMEM;obtain ⟨pre, rest, st, stF, hTe, hg, hrun, hout, hlow, rfl, rfl, rfl, hmem⟩ := hrel;have HG := hd_ hg;have HM := hd_ hmem;have HTE := hd_ hTe;have HOUT := hd_ hout;have HLOW := hd_ hlow;have hrr := hmem.rd;have hsmall := hrr.small;clear hg hmem hTe hout hlow;cases rest with
   | nil =>
    cases hrun;have hT1 : T = pre ++ (k.clear + 1, st.width) :: [] := (by simpa using HTE.out);have hf := HFI.out (k.clear + 1, st.width) (by rw [hT1]; simp);simp only at hf;have CT := hd_ (take_tok hrr hT1 hf.1 hf.2 HLN.out);clear hrr hT1;go_wp2_with fail
    refine CT.out.mono ?_;rintro e w2 ⟨rfl, hr2, hg2⟩;have hm2 := HM.out.take hnsg.1 hr2 hg2;have HM2 := hd_ hm2;have d0 := (cr_ w2 0 hm2.kind (Value.int .i64 (k.clear : Nat)) rfl);clear CT hr2 hg2 hm2 hf;go_wp2_with fail
    go_ret2
    refine ⟨_, rfl, ?_, ?_⟩
    ·rw [<- HOUT.out, HKB.out]
     exact ownsRow_base HM2.out.row (by omega)
    ·rw [HKB.out]
     exact HM2.out.below
   | cons q rest =>
    obtain ⟨c0, m0⟩ := q;cases hrun with
    | cons hstep hrun =>
     rename_i st'
     obtain ⟨rfl, hcase⟩ := hstep;have HRUN := hd_ hrun;have hT1 : T = pre ++ (c0, st.width) :: (rest ++ [(k.clear + 1, stF.width)]) := (by rw [HTE.out]; simp);have hT2 : T = (pre ++ [(c0, st.width)]) ++ rest ++ [(k.clear + 1, stF.width)] := (by rw [HTE.out]; simp);have hf := HFI.out (c0, st.width) (by rw [hT1]; simp);simp only at hf;have hc4 : c0 < 4096 := Nat.lt_of_lt_of_le hf.1 (Nat.pow_le_pow_right (by decide) hf.2);have hw12 := hf.2;have CT := hd_ (take_tok hrr hT1 hf.1 hf.2 HLN.out);have HT2 := hd_ hT2;clear hrr hT1 hT2 hrun hf;go_wp2_with fail
     refine CT.out.mono ?_;rintro e w2 ⟨rfl, hr2, hg2⟩;have hm2 := HM.out.take hnsg.1 hr2 hg2;have HM2 := hd_ hm2;have d0 := (cr_ w2 0 hm2.kind (Value.int .i64 (k.clear : Nat)) rfl);have d1 := (cr_ w2 1 hm2.kind (Value.int .i64 (k.width : Nat)) rfl);have hmost := hm2.tab.most;have hlowl : k.clear + 2 <= st.tab.length := by
      obtain ⟨u, hu⟩ := HLOW.out;rw [hu, List.length_append, lz.entries_length];omega
     clear CT hr2 hg2 hm2;rcases hcase with ⟨rfl, rfl⟩ | ⟨hne1, hne2, s, hstr, hsout, hsah, hsm⟩
     ·
      have e2 : ((k.clear : Int) + 2) = ((k.clear + 2 : Nat) : Int) := (by omega);have E2 := hd_ e2;clear e2;go_wp2_with fail
      go_quiet (fail)
      go_wp2_with fail
      go_roundg rest.length
      case measure => have := HG.out; simp at this; omega
      case rel =>
       have htk : st.tab.take (k.clear + 2) = lz.entries k := by
        obtain ⟨u, hu⟩ := HLOW.out;rw [hu, <- lz.entries_length k];exact List.take_left
       have hmm := (HM2.out.cut hlowl).grow (below_drewN (Below.refl _ _) nq);rw [htk] at hmm;refine ⟨pre ++ [(k.clear, st.width)], rest, lz.start k st.out, stF, HT2.out, rfl, HRUN.out, HOUT.out, ⟨[], by simp [lz.start]⟩, ?_, rfl, rfl, hmm⟩;rw [show (lz.start k st.out).tab = lz.entries k from rfl, lz.entries_length]
     ·have HSTR := hd_ hstr
      have HSO := hd_ hsout;have HSA := hd_ hsah;have hn1 : ((c0 : Int) == (k.clear : Int)) = false := (by simp; omega);have hn2 : ((c0 : Int) == ((k.clear : Int) + 1)) = false := (by simp; omega);clear hstr hsout hsah;obtain ⟨av, hav⟩ : ∃ av, lz.aheadV st.ahead = av := ⟨_, rfl⟩;rw [hav];have HAV := hd_ hav;clear hav
      go_upto_block 2 with fail
      go_cut [9, 10, 11] from 27 to 168 (fun s9 s10 s11 wx => s9 = .slice (some ⟨tb, 0, none⟩) st.tab.length 4096 /\ s10 = .int .i64 (st.width : Nat) /\ s11 = .int .i64 av /\ w2 = wx)
      case first =>
       cases hah : st.ahead with
       | none =>
        rw [hah] at hsm;obtain ⟨hcl, _, _⟩ := hsm;have hav := HAV.out;rw [hah] at hav;have ha0 : av < 0 := (by rw [<- hav]; decide);clear hav;have hb1 : ¬ ((k.clear : Int) < (c0 : Int)) := (by omega);have hb2 : ¬ ((st.tab.length : Int) < (c0 : Int)) := (by omega);have hb3 : ((c0 : Int) == (st.tab.length : Int)) = false := (by simp; omega);go_wp2_with fail
        go_meet
        exact ⟨rfl, rfl, rfl, rfl⟩
       | some a =>
        rw [hah] at hsm;obtain ⟨hcl, hless, _⟩ := hsm;have hav := HAV.out;rw [hah] at hav;have ha0 : ¬ av < 0 := (by rw [<- hav]; simp [lz.aheadV]);clear hav;have hb2 : ¬ ((st.tab.length : Int) < (c0 : Int)) := (by omega);have hb4 : ((st.tab.length : Int) == 4096) = false := (by simp; omega);by_cases hcc : c0 = st.tab.length
        ·have hb3 : ((c0 : Int) == (st.tab.length : Int)) = true := by simp [hcc]
         clear hcc;go_wp2_with fail
         go_meet
         exact ⟨rfl, rfl, rfl, rfl⟩
        ·have hb3 : ((c0 : Int) == (st.tab.length : Int)) = false := by simp; omega
         clear hcc;go_wp2_with fail
         go_meet
         exact ⟨rfl, rfl, rfl, rfl⟩
      case rest =>
       obtain ⟨rfl, rfl, rfl, rfl⟩ := hcut;clear d0 d1;go_upto_region 16 with (fail)
       go_cut [84] from 27 to 168 (fun s84 wx => s84 = .bool (decide ((0 : Int) <= av)) /\ w2 = wx)
       case first =>
        by_cases ha0 : (0 : Int) <= av
        ·have hl40 : ((st.tab.length : Int) < 4096) := by
          cases hah : st.ahead with
          | none =>
           have hav := HAV.out;rw [hah] at hav;simp [lz.aheadV] at hav;omega
          | some a =>
           rw [hah] at hsm;have := hsm.2.1;omega
         go_wp2_with fail
         go_meet
         exact ⟨by rw [decide_eq_true ha0], rfl⟩
        ·go_wp2_with fail
         go_meet
         exact ⟨by rw [decide_eq_false (by omega)], rfl⟩
       case rest =>
       obtain ⟨rfl, rfl⟩ := hcut
       go_upto_if 84 with (fail)
       go_cut [9, 10] from 27 to 168 (fun s9 s10 wx => s9 = .slice (some ⟨tb, 0, none⟩) st'.tab.length 4096 /\ s10 = .int .i64 (st'.width : Nat) /\ lz.Mem k up (lz.bitsOfAll up T) w w1.heap.size b2 g tb sb n c kb (lz.bitsOfAll up (pre ++ [(c0, st.width)])).length st'.tab u12 st.out wx)
       case first =>
        cases hah : st.ahead with
        | none =>
         rw [hah] at hsm;obtain ⟨hcl, htb, hwd⟩ := hsm;have hav := HAV.out;rw [hah] at hav;have ha0 : ¬ ((0 : Int) <= av) := (by rw [<- hav]; decide);clear hav;go_wp2_with fail
         go_meet
         exact ⟨by rw [htb], by rw [hwd], by rw [htb]; exact HM2.out⟩
        | some a =>
         rw [hah] at hsm;obtain ⟨hcl, hless, sa, hsa, htb, hwd⟩ := hsm;have hav := HAV.out;rw [hah] at hav;obtain rfl : ((a : Nat) : Int) = av := hav;clear HAV;obtain ⟨ea, hea, hen, hehd⟩ := hsa.entry;have hal := hsa.lt;have hsal := hsa.len;have k1 := HM2.out.tab.cell' hea (f := 2) (by decide) rfl;have k2 := HM2.out.tab.cell' hea (f := 3) (by decide) rfl;rw [hen] at k2;have hfa := lz.hd_of hehd;rw [<- hfa] at k1;have HJ : Hid (∀ w' e', lz.Tab w1.heap.size w' tb (st.tab ++ [e']) -> w'.cell? ⟨tb, a * 4 + 2, none⟩ = some (.int .u8 (lz.hd sa)) /\ w'.cell? ⟨tb, a * 4 + 3, none⟩ = some (.int .i64 (sa.length : Nat))) := hd_ (fun w' e' ht => ⟨by rw [hfa]; exact ht.cell' (lz.getElem?_grown hea) (by decide) rfl, by rw [<- hen]; exact ht.cell' (lz.getElem?_grown hea) (by decide) rfl⟩);have HTBE := hd_ htb;have HWD := hd_ hwd;have hl40 : ((st.tab.length : Int) < 4096) := (by omega);clear htb hwd hea hen hehd hfa hsa;have hax : (a : Int) < (st.tab.length : Int) := (by omega);have ha00 : (0 : Int) <= (a : Int) := by omega
         go_upto_if 93 with (fail)
         go_cut [16] from 27 to 168 (fun s16 wx => s16 = .int .u8 (lz.hd s) /\ w2 = wx)
         case first =>
          by_cases hcc : c0 = st.tab.length
          ·have hnc : ¬ ((c0 : Int) < (st.tab.length : Int)) := by omega
           have hhd : lz.hd s = lz.hd sa := by
            obtain ⟨e, he, _, hh⟩ := HSTR.out.entry;rw [HTBE.out, hcc, List.getElem?_append_right (Nat.le_refl _), Nat.sub_self] at he;have he2 := Option.some.inj he;rw [<- he2] at hh;exact lz.hd_of hh
           have HHD := hd_ hhd;clear hcc hhd;go_wp2_with fail
           go_meet
           exact ⟨by rw [HHD.out], rfl⟩
          ·have hcx : (c0 : Int) < (st.tab.length : Int) := by omega
           have hstr2 : lz.Str st.tab c0 s := by
            have h1 := HSTR.out;rw [HTBE.out] at h1;exact h1.back (by omega)
           obtain ⟨ec, hec, _, hchd⟩ := hstr2.entry;have k3 := HM2.out.tab.cell' hec (f := 2) (by decide) rfl;have hfc := lz.hd_of hchd;rw [<- hfc] at k3;clear hec hchd hfc hstr2 hcc;go_wp2_with fail
           go_meet
           exact ⟨rfl, rfl⟩
         case rest =>
         obtain ⟨rfl, rfl⟩ := hcut;go_wp2_with fail
         have hsv : IntKind.i64.wrap ((sa.length : Int) + 1) = ((sa.length + 1 : Nat) : Int) := i64o (by omega) (by omega);obtain ⟨E, hE⟩ : ∃ E : lz.E, E = ⟨(a : Nat), lz.hd s, lz.hd sa, sa.length + 1⟩ := ⟨_, rfl⟩;have HTX : Hid (lz.Tab w1.heap.size (w2.alloc (.cells #[.int .i64 (a : Nat), .int .u8 (lz.hd s), .int .u8 (lz.hd sa), .int .i64 ((sa.length : Int) + 1)] 151)).drew tb st.tab) := hd_ (HM2.out.tab.below (((Below.refl _ _).alloc (Nat.le_refl _) _).drew));have hgx := heap_alloc_new w2 (.cells #[.int .i64 (a : Nat), .int .u8 (lz.hd s), .int .u8 (lz.hd sa), .int .i64 ((sa.length : Int) + 1)] 151 (0, 0));have HGX : Hid ((w2.alloc (.cells #[.int .i64 (a : Nat), .int .u8 (lz.hd s), .int .u8 (lz.hd sa), .int .i64 ((sa.length : Int) + 1)] 151)).drew.heap[w2.heap.size]? = some (.cells #[.int .i64 (a : Nat), .int .u8 (lz.hd s), .int .u8 (lz.hd sa), .int .i64 ((sa.length : Int) + 1)] 151 (0, 0))) := hd_ hgx;have HE := hd_ hE;have HBX := hd_ (show Below w2.heap.size w2 (w2.alloc (.cells #[.int .i64 (a : Nat), .int .u8 (lz.hd s), .int .u8 (lz.hd sa), .int .i64 ((sa.length : Int) + 1)] 151)).drew from ((Below.refl _ _).alloc (Nat.le_refl _) _).drew);clear hgx hE
         go_region_held3 (fun w' => w'.cell? ⟨tb, a * 4 + 2, none⟩ = some (.int .u8 (lz.hd sa)) /\ w'.cell? ⟨tb, a * 4 + 3, none⟩ = some (.int .i64 (sa.length : Nat))) (go_keep)
          ((first
           | (refine step_of_append (by rfl) (.tmp 99) (.tmp 114) 147 147 (by rfl) (run_append_tab _ _ w1.heap.size tb st.tab ⟨(a : Nat), lz.hd s, lz.hd sa, sa.length + 1⟩ HTX.out (by omega) w2.heap.size HGX.out) ?_; rintro v4 w4 ⟨rfl, ht4, hg4⟩; have j1 := (HJ.out w4 _ ht4).1; have j2 := (HJ.out w4 _ ht4).2; have HT4 := hd_ ht4; have HG4 := hd_ hg4; clear ht4 hg4)))
         clear k1 k2 j1 j2
         rename_i hheld
         clear hheld;have hm4 := (HM2.out.grow HBX.out).app (by have := HRA.out; omega) hnsg.2 HT4.out HG4.out;have HM4 := hd_ hm4;have e3 := (cr_ w4 3 hm4.kind (Value.int .i64 (k.early : Nat)) rfl);obtain ⟨N, hN⟩ : ∃ N, st.tab.length + 1 = N := ⟨_, rfl⟩;obtain ⟨p2, z, hp1, hp2, hbm⟩ := bump_facts HK.out.few N st.width hw12;have hlen' : st'.tab.length = N := (by rw [HTBE.out, List.length_append, List.length_singleton, hN]);have HLE := hd_ hlen';have HNN := hd_ hN;have HBM := hd_ hbm;clear hm4 HTX HGX HBX HE HJ HT4 HG4 hbm hlen';rw [hN];clear hN;by_cases hnz : N = z
         ·have gz : ((N : Int) == (z : Int)) = true := by simp [hnz]
          by_cases h12 : st.width < 12
          ·have g12 : decide ((st.width : Int) < 12) = true := decide_eq_true (by omega)
           have HBB := hd_ (show st'.width = st.width + 1 by rw [HWD.out, HNN.out, HBM.out, if_pos ⟨hnz, h12⟩]);clear hnz;go_wp2_with fail
           go_quiet (fail)
           go_wp2_with fail
           go_meet
           exact ⟨by rw [HLE.out], by rw [HBB.out]; go_num, by rw [HTBE.out]; exact HM4.out.grow (below_drewN (Below.refl _ _) nq)⟩
          ·have g12 : decide ((st.width : Int) < 12) = false := decide_eq_false (by omega)
           have HBB := hd_ (show st'.width = st.width by rw [HWD.out, HNN.out, HBM.out, if_neg (by omega)]);clear hnz h12;go_wp2_with fail
           go_quiet (fail)
           go_wp2_with fail
           go_meet
           exact ⟨by rw [HLE.out], by rw [HBB.out], by rw [HTBE.out]; exact HM4.out.grow (below_drewN (Below.refl _ _) nq)⟩
         ·have gz : ((N : Int) == (z : Int)) = false := by simp; omega
          have HBB := hd_ (show st'.width = st.width by rw [HWD.out, HNN.out, HBM.out, if_neg (by omega)]);clear hnz;go_wp2_with fail
          go_quiet (fail)
          go_wp2_with fail
          go_meet
          exact ⟨by rw [HLE.out], by rw [HBB.out], by rw [HTBE.out]; exact HM4.out.grow (below_drewN (Below.refl _ _) nq)⟩
       case rest =>
        obtain ⟨rfl, rfl, hm3⟩ := hcut;have HM3 := hd_ hm3;obtain ⟨oa, oc, rfl, hoc, hom, _⟩ := own_slice' hm3.row;have HLOW2 := hd_ (show ∃ u, st'.tab = lz.entries k ++ u by
         obtain ⟨u, hu⟩ := HLOW.out;cases hah : st.ahead with
         | none => rw [hah] at hsm; exact ⟨u, by rw [hsm.2.1, hu]⟩
         | some a =>
          rw [hah] at hsm;obtain ⟨_, _, sa, _, ht, _⟩ := hsm;exact ⟨u ++ [_], by rw [ht, hu, List.append_assoc]⟩)
        clear hm3 hsm HM2;obtain ⟨ec, hec, hen, _⟩ := HSTR.out.entry;have hcl := HSTR.out.lt;have hsn : 0 < s.length := List.length_pos_iff.2 HSTR.out.ne;have k1 := HM3.out.tab.cell' hec (f := 3) (by decide) rfl;rw [hen] at k1;have hfit : st.out.length + s.length <= M := by
         obtain ⟨q, hq⟩ := HRUN.out.out;have h1 : l.length = st.out.length + s.length + q.length := (by rw [<- HOUT.out, hq, HSO.out, List.length_append, List.length_append]);omega
        have hsl : s.length <= 4097 := (by have := HSTR.out.len; omega);have hnl : ¬ ((M : Int) - (st.out.length : Int) < (s.length : Int)) := (by omega);have hcx : (c0 : Int) < (st'.tab.length : Int) := (by omega);have hkb2 : kb <= b2 := (by omega);clear hec hen;go_wp2_with (at_builtin; go_must (refine wpList_of_append rfl (.tmp 140) (.tmp 145) 22 3 rfl (run_append_zeros _ _ b2 (.slice oa st.out.length oc) st.out.length st.out HM3.out.row s.length hsn (by omega) HM3.out.big) ?_; rintro v5 w5 ⟨⟨ho5, hg5⟩, hv5⟩; obtain ⟨vb, cp5, rfl, hcp5⟩ := own_form ho5 (by omega); have HO5 := hd_ ho5; have HG5 := hd_ hg5; clear ho5 hg5 hv5))
        have hm5 := HM3.out.rowed (v' := .slice (some ⟨vb, 0, none⟩) (st.out.length + s.length) cp5) (out' := lz.fill st.out s s.length) hnsb hkb2 (by rw [lz.fill_length st.out s (Nat.le_refl _), lz.fill_start]; exact HO5.out) HG5.out;have HM5 := hd_ hm5;clear hm5 HO5 HG5 k1 hnl;go_loopg [17, 18] s.length (fun gk s17 s18 wx => ∃ r d : List Int, gk = r.length /\ s = r ++ d /\ s17 = .int .i64 ((st.out.length : Int) + (r.length : Int) - 1) /\ ((r = [] /\ s18 = .int .i64 (-1)) \/ ∃ c1 : Nat, s18 = .int .i64 (c1 : Nat) /\ lz.Str st'.tab c1 r) /\
         lz.Mem k up (lz.bitsOfAll up T) w w1.heap.size b2 g tb sb n c kb (lz.bitsOfAll up (pre ++ [(c0, st.width)])).length st'.tab (.slice (some ⟨vb, 0, none⟩) (st.out.length + s.length) cp5) (lz.fill st.out s r.length) wx)
        case atStart => exact ⟨s, [], rfl, by simp, rfl, .inr ⟨c0, rfl, HSTR.out⟩, HM5.out⟩
        case round =>
         obtain ⟨r, d, hgr, hsd, rfl, hr, hm6⟩ := hrel;have HGR := hd_ hgr;have HSD := hd_ hsd;have HM6 := hd_ hm6;clear hgr hsd hm6 HM5;rcases hr with ⟨rfl, rfl⟩ | ⟨c1, rfl, hst1⟩
         ·go_wp2_with fail
          go_roundg rest.length
          case measure => have := HG.out; simp at this; omega
          case rel =>
           have hm7 := HM6.out;rw [List.length_nil, lz.fill_end, <- HSO.out] at hm7;exact ⟨pre ++ [(c0, st.width)], rest, st', stF, HT2.out, rfl, HRUN.out, HOUT.out, HLOW2.out, rfl, rfl, by rw [HSA.out]; rfl, hm7⟩
         ·obtain ⟨e1, r0, he1, hr0, hah⟩ := hst1.end
          have hc1 := hst1.lt;have hc1x : (c1 : Int) < (st'.tab.length : Int) := (by omega);have hc10 : (0 : Int) <= (c1 : Int) := (by omega);have hrl : r.length = r0.length + 1 := (by rw [hr0, List.length_append, List.length_singleton]);obtain ⟨q, hq⟩ : ∃ q, st.out.length + r0.length = q := ⟨_, rfl⟩;have hq2 : (st.out.length : Int) + (r.length : Int) - 1 = (q : Int) := (by omega);have hqn : q < st.out.length + s.length := by
           have h1 := HSD.out;rw [h1, List.length_append, hrl];omega
          rw [hq2];have hfl := lz.fill_length st.out s (m := r.length) (by have h1 := HSD.out; rw [h1, List.length_append]; omega);have hrow := HM6.out.row;rw [hfl] at hrow;obtain ⟨cur, hcur, hck, hcz, _⟩ := own_cur hrow hqn;obtain ⟨y, hy⟩ : ∃ y, (lz.fill st.out s r.length).getD q 0 = y := ⟨_, rfl⟩;rw [hy] at hck;have qc := (cell_of_row wr _ q _ _ (0, 0) hcur).trans hck;clear hy hck;have qf := frozen_of_row wr _ q _ _ hcur;have k4 := HM6.out.tab.cell' he1 (f := 1) (by decide) rfl;have k5 := HM6.out.tab.cell' he1 (f := 0) (by decide) rfl;rw [Nat.add_zero] at k5;have hqx : (q : Int) < ((st.out.length + s.length : Nat) : Int) := (by omega);have HQ := hd_ hq;have HRL := hd_ hrl;have HR0 := hd_ hr0;have HE1 := hd_ he1;have HFL := hd_ hfl;have HAH := hd_ hah;have HROW := hd_ hrow;clear hq hq2 hrl hr0 he1 hfl hah hrow;go_wp2_with fail
          have hset : (lz.fill st.out s r.length).set q e1.last = lz.fill st.out s r0.length := by
           have h1 := HSD.out;rw [HR0.out] at h1;rw [h1, HRL.out, <- HQ.out];exact lz.fill_set _ _ _ _
          have hm7 := HM6.out.rowed (v' := .slice (some ⟨vb, 0, none⟩) (st.out.length + s.length) cp5) (out' := (lz.fill st.out s r.length).set q e1.last) hnsb hkb2 (by rw [List.length_set, HFL.out]; exact own_put _ HROW.out hqn) (grownBy_setCell3 wr vb q _);rw [hset] at hm7;have HM7 := hd_ hm7;clear hm7 hset k4 k5 qc qf hcur hcz HROW;generalize wr.setCell ⟨vb, q, none⟩ (.int .u8 e1.last) = w7 at *;have k6 := HM7.out.tab.cell' HE1.out (f := 0) (by decide) rfl;rw [Nat.add_zero] at k6;go_quiet (fail)
          go_wp2_with fail
          go_roundg r0.length
          case measure => have := HGR.out; have := HRL.out; omega
          case rel =>
           have hm8 := HM7.out.grow (below_drewN (Below.refl _ _) nq);have h17 : ((q : Int) - 1) = (st.out.length : Int) + (r0.length : Int) - 1 := (by have := HQ.out; omega);refine ⟨r0, [e1.last] ++ d, rfl, by have h1 := HSD.out; rw [HR0.out, List.append_assoc] at h1; exact h1, by rw [h17], ?_, hm8⟩;rcases HAH.out with ⟨h1, h2⟩ | ⟨a', h1, h2⟩
           ·exact .inl ⟨h1, by rw [h2]⟩
           ·exact .inr ⟨a', by rw [h1], h2⟩
end Go.Proofs.YthpckmcgbmfmcaaGreatDoor
