/- Texts of this claim, joined. -/
import Derived.Test.YthpckmcgbmfmcaaGreatDoorM7
import Derived.RegionTactic
set_option maxRecDepth 100000
set_option maxHeartbeats 12800000
namespace Go.Proofs.YthpckmcgbmfmcaaGreatDoor
open Go.RowKit Go.Sort Go.Maps
theorem Fresh.mono {k : IntKind} {t : TypeId} {base base' : Nat} {w' : World} {v : Value} {n : Nat} {l : List Int} (h : Fresh k t base' w' v n l) (hb : base <= base') : Fresh k t base w' v n l := by
 obtain ⟨g, c, rfl, h2, h3, h4⟩ := h;refine ⟨g, c, rfl, Nat.le_trans hb h2, h3, ?_⟩;rcases h4 with ⟨h, _⟩ | ⟨g', c', cur, h5, h6, h7⟩
 ·cases h
 ·exact .inr ⟨g', c', cur, h5, Nat.le_trans hb h6, h7⟩
theorem zeroInt (w : World) : (zeroValue 3).run Tryz.prog w = .ok (.int .i64 0) w := by kernel_rfl
def lz.Codes (w : World) (mb cnt : Nat) (codes : Nat -> Int -> Option Nat) : Prop :=
 ∃ D : DataW Unit, w.ownsMap Tryz.prog 146 (plainElem Tryz.prog 3) mb cnt D /\ ∀ p x, p < 4096 -> 0 <= x -> x < 256 ->
  match codes p x with
  | some c => Maps.has D (lz.key p x) = true /\ D.atKey (lz.key p x) (.lit (.int .i64 0)) = .lit (.int .i64 (c : Nat))
  | none => Maps.has D (lz.key p x) = false
theorem lz.Codes.same {w w' : World} {mb cnt : Nat} {codes : Nat -> Int -> Option Nat} (h : lz.Codes w mb cnt codes) (hs : ∀ o, w.heap[mb]? = some o -> w'.heap[mb]? = some o) : lz.Codes w' mb cnt codes := by
 obtain ⟨D, ⟨es, clock, h1, h2, h3, h4⟩, h5⟩ := h;exact ⟨D, ⟨es, clock, hs _ h1, h2, h3, h4⟩, h5⟩
theorem lz.Codes.block {w : World} {mb cnt : Nat} {codes : Nat -> Int -> Option Nat} (h : lz.Codes w mb cnt codes) : ∃ es clock, w.heap[mb]? = some (.map es clock) := by
 obtain ⟨D, ⟨es, clock, h1, _⟩, _⟩ := h;exact ⟨es, clock, h1⟩
theorem lz.codes_none {w : World} {mb : Nat} (h : w.heap[mb]? = some (.map #[] 0)) : lz.Codes w mb 0 (fun _ _ => none) := by
 have h1 := World.ownsMap_made (H := Unit) ({ w with heap := #[] } : World) Tryz.prog 146 (plainElem Tryz.prog 3);obtain ⟨es, clock, h2, h3, h4, h5⟩ := h1;have h6 : some (Obj.map #[] 0) = some (.map es clock) := by rw [<- h2]; rfl
 injection h6 with h6
 injection h6 with h7 h8
 subst h7; subst h8;exact ⟨.map [], ⟨#[], 0, h, h3, h4, h5⟩, fun p x _ _ _ => rfl⟩
def lz.upd (codes : Nat -> Int -> Option Nat) (c : Nat) (y : Int) (m : Nat) : Nat -> Int -> Option Nat := fun p x => if p = c /\ x = y then some m else codes p x
theorem lz.upd_in (codes : Nat -> Int -> Option Nat) (c : Nat) (y : Int) (m : Nat) (p : Nat) (x : Int) (c' : Nat) (h : lz.upd codes c y m p x = some c') : (p = c /\ x = y /\ c' = m) \/ codes p x = some c' := by
 unfold lz.upd at h;split at h
 ·rename_i e
  exact .inl ⟨e.1, e.2, (Option.some.inj h).symm⟩
 ·exact .inr h
theorem lz.codes_put {w' : World} {mb cnt' : Nat} {codes : Nat -> Int -> Option Nat} {D : DataW Unit} {c : Nat} {y : Int} {m : Nat} (hc : c < 4096) (hy : 0 <= y /\ y < 256)
  (hD : ∀ p x, p < 4096 -> 0 <= x -> x < 256 -> match codes p x with | some c => Maps.has D (lz.key p x) = true /\ D.atKey (lz.key p x) (.lit (.int .i64 0)) = .lit (.int .i64 (c : Nat)) | none => Maps.has D (lz.key p x) = false)
  (hm : IsMap D) (ho : w'.ownsMap Tryz.prog 146 (plainElem Tryz.prog 3) mb cnt' (D.put (lz.key c y) (.lit (.int .i64 (m : Nat))))) : lz.Codes w' mb cnt' (lz.upd codes c y m) := by
 refine ⟨_, ho, fun p x hp h0 h1 => ?_⟩;have hk := law_pair.key (keyOf_pair c y (by omega) hy);unfold lz.upd;by_cases e : p = c /\ x = y
 ·rw [if_pos e]
  obtain ⟨rfl, rfl⟩ := e;exact ⟨has_put_same hm hk _, atKey_put_same hm hk _ _⟩
 ·rw [if_neg e]
  have hne : lz.key p x ≠ lz.key c y := fun e' => e (key_inj (by omega) ⟨h0, h1⟩ (by omega) hy e')
  rw [has_put_other hne, atKey_put_other hne];exact hD p x hp h0 h1
theorem lz.Env.map {base : Nat} {w w' : World} {k : lz.K} {up : Bool} {g wb db nb kb : Nat} {L : List Bool} {v : Value} {width next mb : Nat} (h : lz.Env base w k up g wb db nb kb L v width next) {es : Array MapEntry} {clock : Nat} (hm : w.heap[mb]? = some (.map es clock)) (hg : w.grownBy w' (some mb)) :
  lz.Env base w' k up g wb db nb kb L v width next := by
 have ne : ∀ {i : Nat} {a : Array Value} {t : TypeId} {z : Nat × Nat}, w.heap[i]? = some (.cells a t z) -> w'.heap[i]? = some (.cells a t z) := by
  intro i a t z h1;refine (hg.block i (block_lt h1) ?_).trans h1;intro e;cases e;rw [h1] at hm;cases hm
 refine ⟨⟨h.wr.lies, ne h.wr.head, h.wr.row.kept hg ?_⟩, ne h.wbox, ne h.dbox, ne h.nbox, ne h.kbox, h.apart, h.dlies, h.nlies⟩;exact .inr (Ne.symm (own_not_loop h.wr.row hm rfl))
theorem packput_any {base : Nat} {w : World} {k : lz.K} {up : Bool} {g wb db nb kb : Nat} {L : List Bool} {v : Value} {width next : Nat} (fresh : Bool) (h : lz.Env base w k up g wb db nb kb L v width next) (hb : base <= w.heap.size)
  (c : Nat) (hc : c < 4294967296) (hw : width <= 12) (hn : next <= 4096) (hke : k.early <= 1) (hL : L.length + 32 <= 1099511627776) :
  Calls Tryz.prog 75 #[.int .i64 c, .bool fresh, .pointer (some ⟨wb, 0, none⟩), .pointer (some ⟨db, 0, none⟩), .pointer (some ⟨nb, 0, none⟩), .pointer (some ⟨kb, 0, none⟩)] w
   (lz.PutPost base k up g wb db nb kb (L ++ bt.bitsOf up c width) (if fresh then lz.bump k (next + 1) width else width) (next + if fresh then 1 else 0) w) := by
 cases fresh
 ·exact packput_old h hb c hc hw hL
 ·exact packput_new h hb c hc hw hn hke hL
theorem lz.bitsAll_len (up : Bool) : ∀ {T : List (Nat × Nat)}, lz.Fits T -> (lz.bitsOfAll up T).length <= 12 * T.length
 | [], _ => by simp [lz.bitsOfAll]
 | (c, m) :: T, h => by
  have h1 := (h (c, m) (by simp)).2;have h2 := lz.bitsAll_len up (T := T) (fun q hq => h q (by simp [hq]));rw [lz.bitsOfAll_cons, List.length_append, bt.bitsOf_length, List.length_cons];simp only at h1;omega
theorem take_getD {l : List Int} {i : Nat} (h : i < l.length) : l.take (i + 1) = l.take i ++ [l.getD i 0] := by
 rw [List.take_succ_eq_append_getElem h, List.getD_eq_getElem?_getD, List.getElem?_eq_getElem h];rfl
theorem map_ne {w : World} {mb j : Nat} {es : Array MapEntry} {clock : Nat} {a : Array Value} {t : TypeId} {z : Nat × Nat} (h : w.heap[mb]? = some (.map es clock)) (k : w.heap[j]? = some (.cells a t z)) : mb ≠ j := by
 intro e;subst e;rw [h] at k;cases k
theorem lz.codes_fr {w w' : World} {base g db nb wb kb mb cnt : Nat} {k : lz.K} {up : Bool} {L : List Bool} {v : Value} {width next : Nat} {codes : Nat -> Int -> Option Nat} (h : lz.Codes w mb cnt codes) (he : lz.Env base w k up g wb db nb kb L v width next) (hf : lz.Fr base g db nb w w') : lz.Codes w' mb cnt codes := by
 obtain ⟨es, clock, hb⟩ := h.block;exact h.same (fun o ho => hf.others _ _ ho (map_ne hb he.wr.head) (map_ne hb he.dbox) (map_ne hb he.nbox) (by rw [hb] at ho; cases ho; intro c fz e; cases e))
def lz.PackRel (k : lz.K) (up : Bool) (l : List Int) (n b0 : Nat) (w0 : World) (g wb db nb kb : Nat) (gk : Nat) (s6 s9 s11 s34 : Value) (wr : World) : Prop :=
 ∃ (i mb cnt : Nat) (T : List (Nat × Nat)) (v : Value) (width next : Nat) (codes : Nat -> Int -> Option Nat), i <= n /\ gk = n - i /\ s6 = .map (some mb) /\ s34 = .int .i64 (i : Nat) /\
  lz.Env b0 wr k up g wb db nb kb (lz.bitsOfAll up T) v width next /\ lz.Codes wr mb cnt codes /\ cnt <= i /\ b0 <= mb /\ Below b0 w0 wr /\ T.length <= 2 * i + 1 /\
  ((i = 0 /\ s9 = .int .i64 (-1) /\ s11 = .bool false /\ T = [(k.clear, k.width)] /\ width = k.width /\ next = k.clear + 2 /\ codes = fun _ _ => none) \/
  (0 < i /\ ∃ st V c s, s9 = .int .i64 (c : Nat) /\ s11 = .bool st.ahead.isSome /\ width = st.width /\ next = st.tab.length /\ lz.Wr k T st V c s codes /\ st.out ++ s = l.take i))
def lz.PackPost (k : lz.K) (up : Bool) (l : List Int) (w : World) (e : Ending) (w' : World) : Prop := ∃ T, lz.Tells k T l /\ T.length <= 2 * l.length + 3 /\ OwnPost w.heap.size (((lz.bitsOfAll up T).length + 7) / 8) (bt.bytes up (lz.bitsOfAll up T)) w e w'
theorem pack_any (k : lz.K) (hk : k.Good) (up : Bool) (a : Option Addr) (n cap : Nat) (l : List Int) (w : World) (h : Sl .u8 w a n cap l) (hl : ∀ x ∈ l, x < k.clear) (hn : n <= 4294967296) :
  Calls Tryz.prog 31 #[.agg #[.int .i64 (k.clear : Nat), .int .i64 (k.width : Nat), .bool up, .int .i64 (k.early : Nat)], .slice a n cap] w (lz.PackPost k up l w) := by
 have HK := hd_ hk;have HS := hd_ h;have HL := hd_ hl;have q0 := heap_alloc_new w (.cells #[.int .i64 (k.clear : Nat), .int .i64 (k.width : Nat), .bool up, .int .i64 (k.early : Nat)] 71 (0, 0));have B0 := hd_ ((Below.refl w.heap.size w).alloc (Nat.le_refl _) (.cells #[.int .i64 (k.clear : Nat), .int .i64 (k.width : Nat), .bool up, .int .i64 (k.early : Nat)] 71));have KB := hd_ q0;have hsz : (w.alloc (.cells #[.int .i64 (k.clear : Nat), .int .i64 (k.width : Nat), .bool up, .int .i64 (k.early : Nat)] 71)).heap.size = w.heap.size + 1 := by simp
 have HSZ := hd_ hsz;clear h hl q0 hsz;go_enter Tryz.func31, Tryz.ntmps31
 go_upto_region 1 with (fail)
 obtain ⟨kb, hkb⟩ : ∃ kb, w.heap.size = kb := ⟨_, rfl⟩;rw [hkb] at B0 KB HSZ ⊢;have HKB := hd_ hkb;clear hkb;generalize w.alloc (.cells #[.int .i64 (k.clear : Nat), .int .i64 (k.width : Nat), .bool up, .int .i64 (k.early : Nat)] 71) = w0 at *;have c2 := (cr_ w0 2 KB.out (Value.bool up) rfl);go_wp2_with fail
 refine (newWriter_any up w0).mono ?_;rintro e w1 ⟨g, rfl, hwr, hb1⟩;obtain ⟨b0, hb0⟩ : ∃ b0, w0.heap.size = b0 := ⟨_, rfl⟩;rw [hb0] at hwr hb1;have HWR := hd_ hwr;have HB1 := hd_ hb1;have HB00 := hd_ hb0;clear hwr hb1 hb0 c2;obtain ⟨wb, hwb⟩ : ∃ wb, w1.heap.size = wb := ⟨_, rfl⟩;have q1 := heap_alloc_new w1 (.cells #[.pointer (some ⟨g, 0, none⟩)] 109 (0, 0));have BW := hd_ ((Below.refl w1.heap.size w1).alloc (Nat.le_refl _) (.cells #[.pointer (some ⟨g, 0, none⟩)] 109));have SW : (w1.alloc (.cells #[.pointer (some ⟨g, 0, none⟩)] 109)).heap.size = w1.heap.size + 1 := by simp
 rw [hwb] at q1 SW BW;have Q1 := hd_ q1;have HWB := hd_ hwb;have HSW := hd_ SW;clear q1 hwb SW;go_upto_region 2 with (fail)
 rw [HWB.out];generalize w1.alloc (.cells #[.pointer (some ⟨g, 0, none⟩)] 109) = w2 at *;have KB2 := hd_ ((BW.out.block _ (by have := block_lt KB.out; have := HB1.out.size; have := HB00.out; have := HWB.out; omega)).trans ((HB1.out.block _ (by have := block_lt KB.out; have := HB00.out; omega)).trans KB.out));have d0 := (cr_ w2 0 KB2.out (Value.int .i64 (k.clear : Nat)) rfl);have d1 := (cr_ w2 1 KB2.out (Value.int .i64 (k.width : Nat)) rfl);have hkm : k.clear <= 256 := HK.out.most;have hk0 : kb < w2.heap.size := by have := block_lt KB2.out; exact this
 have hk1 : kb < w2.heap.size + 1 := by omega
 have hk2 : kb < w2.heap.size + 1 + 1 := by omega
 have hmm := @run_makeMap Tryz.prog;go_cut [6, 7, 8] from 19 to 24 (fun s6 s7 s8 wx => ∃ mb db nb : Nat, s6 = .map (some mb) /\ s7 = .pointer (some ⟨db, 0, none⟩) /\ s8 = .pointer (some ⟨nb, 0, none⟩) /\ wx.heap[mb]? = some (.map #[] 0) /\ wx.heap[db]? = some (.cells #[.int .i64 (k.width : Nat)] 3 (0, 0)) /\ wx.heap[nb]? = some (.cells #[.int .i64 ((k.clear : Int) + 2)] 3 (0, 0)) /\ db ≠ nb /\ w2.heap.size <= mb /\ w2.heap.size <= db /\ w2.heap.size <= nb /\ Below w2.heap.size w2 wx)
 case first =>
  go_region
  all_goals (go_wp2_with fail; go_meet)
  all_goals refine ⟨_, _, _, rfl, rfl, rfl, ?_, ?_, ?_, ?_, ?_, ?_, ?_, (below3 w2 _ _ _).drew⟩
  all_goals first | exact (heap3' w2 _ _ _).1.1 | exact (heap3' w2 _ _ _).1.2.1 | exact (heap3' w2 _ _ _).1.2.2 | omega
 case rest =>
  obtain ⟨mb, db, nb, rfl, rfl, rfl, hm, hd, hnb, hdn, hl1, hl2, hl3, hbc⟩ := hcut;have e2 : ((k.clear : Int) + 2) = ((k.clear + 2 : Nat) : Int) := by omega
  rw [e2] at hnb;have HM := hd_ hm;have HLM := hd_ (show b0 <= mb by have := HB1.out.size; have := HB00.out; have := HWB.out; have := HSW.out; omega);have hbw : Below b0 w1 wc := (BW.out.mono (by have := HB1.out.size; have := HB00.out; have := HWB.out; omega)).trans (hbc.mono (by have := HB1.out.size; have := HB00.out; have := HWB.out; have := HSW.out; omega));have hbw1 : Below w1.heap.size w1 wc := (BW.out.mono (by rw [HWB.out]; omega)).trans (hbc.mono (by have := HSW.out; have := HWB.out; omega));have HE := hd_ (show lz.Env b0 wc k up g wb db nb kb [] (.slice none 0 0) k.width (k.clear + 2) from
   ⟨HWR.out.below hbw1, (hbc.block _ (by have := HSW.out; omega)).trans Q1.out, hd, hnb, (hbc.block _ hk0).trans KB2.out, hdn, by have := HB1.out.size; have := HB00.out; have := HWB.out; have := HSW.out; omega, by have := HB1.out.size; have := HB00.out; have := HWB.out; have := HSW.out; omega⟩)
  have HBC := hd_ (HB1.out.trans hbw);have HSZC := hd_ (show b0 <= wc.heap.size by have := hbw.size; have := HB1.out.size; have := HB00.out; omega);clear hm hd hnb hdn hl1 hl2 hl3 hbc e2 d0 d1 hk0 hk1 hk2 hmm hbw hbw1;have k0 := (cr_ wc 0 HE.out.wbox (Value.pointer (some ⟨g, 0, none⟩)) rfl);have k1 := (cr_ wc 0 HE.out.kbox (Value.int .i64 (k.clear : Nat)) rfl);have k2 := (cr_ wc 0 HE.out.dbox (Value.int .i64 (k.width : Nat)) rfl);have hkw : k.width <= 12 := HK.out.high;go_wp2_with fail
  refine (put_any HE.out.wr HSZC.out k.clear k.width (by omega) (by omega) (by decide)).mono ?_;rintro e w3 ⟨rfl, v3, hw3, hf3⟩;have HE3 := hd_ (HE.out.step hw3 hf3);have HB3 := hd_ (HBC.out.trans hf3.below);have HM3 := hd_ (lz.codes_none (hf3.others _ _ HM.out (by intro e; have h1 := HE.out.wr.head; have h2 := Option.some.inj e; rw [<- h2, HM.out] at h1; cases h1) (by intro c fz e; cases e)));clear hw3 hf3 k0 k1 k2 HBC HM HE;go_wp2_with fail
  go_loopg [6, 9, 11, 34] n (fun gk s6 s9 s11 s34 wr => lz.PackRel k up l n b0 w0 g wb db nb kb gk s6 s9 s11 s34 wr)
  case atStart => exact ⟨0, mb, 0, [(k.clear, k.width)], v3, k.width, k.clear + 2, fun _ _ => none, Nat.zero_le _, rfl, rfl, rfl, by rw [show lz.bitsOfAll up [(k.clear, k.width)] = [] ++ bt.bitsOf up k.clear k.width by simp [lz.bitsOfAll]]; exact HE3.out, HM3.out, Nat.zero_le _, HLM.out, HB3.out, by simp, .inl ⟨rfl, rfl, rfl, rfl, rfl, rfl, rfl⟩⟩
  case round =>
   obtain ⟨i, mb, cnt, T, v, width, next, codes, hi, hg, rfl, rfl, he, hc, hcn, hml, hbl, hT, hst⟩ := hrel;have Hg := hd_ hg;have HE := hd_ he;have HC := hd_ hc;have HBL := hd_ hbl;have HST := hd_ hst;have HT := hd_ hT;have HML := hd_ hml;have HCN := hd_ hcn;clear hg he hc hbl hst HE3 HM3 HB3 hT hml hcn;have hll : l.length = n := HS.out.len;have hb0w : b0 <= wr.heap.size := (by have := HB00.out; have := HBL.out.size; omega);have hkw : k.width <= 12 := HK.out.high;by_cases hlt : i < n
   ·obtain ⟨ab, ao, rfl, hcell⟩ := HS.out.cells (by omega)
    have BKW : Below w.heap.size w wr := (by rw [HKB.out]; exact B0.out.trans (HBL.out.mono (by have := HB00.out; have := HSZ.out; omega)));have cx := keep_cell BKW (hcell i hlt);have hxb := byte_getD HS.out.bytes i;have hxl : l.getD i 0 < (k.clear : Int) := HL.out _ (by rw [List.getD_eq_getElem?_getD, List.getElem?_eq_getElem (by omega)]; exact List.getElem_mem _);have HTK : Hid (l.take (i + 1) = l.take i ++ [l.getD i 0]) := hd_ (take_getD (by omega));obtain ⟨x, hx⟩ : ∃ x : Nat, l.getD i 0 = (x : Int) := ⟨(l.getD i 0).toNat, by omega⟩;rw [hx] at cx hxb hxl HTK;have hxk : x < k.clear := (by omega);clear hcell hx BKW;rcases HST.out with ⟨rfl, rfl, rfl, rfl, rfl, rfl, rfl⟩ | ⟨hi0, st, V, c, t, rfl, rfl, rfl, rfl, hw, hout⟩
    ·rw [Nat.add_zero] at cx
     go_wp2_with fail
     go_roundg (n - 1)
     case measure => have := Hg.out; omega
     case rel =>
      have hr : lz.Runs k (lz.start k []) [(k.clear, k.width)] (lz.start k []) := .cons ⟨rfl, .inl ⟨rfl, rfl⟩⟩ .nil;have hf : lz.Fits [(k.clear, k.width)] := by
       intro q hq;rw [List.mem_singleton.1 hq];have := HK.out.fits;exact ⟨by dsimp only; omega, hkw⟩
      exact ⟨1, mb, cnt, [(k.clear, k.width)], v, k.width, k.clear + 2, fun _ _ => none, by omega, rfl, rfl, rfl, HE.out, HC.out, Nat.le_succ_of_le HCN.out, HML.out, HBL.out, by simp, .inr ⟨by decide, lz.start k [], lz.entries k, x, [((x : Nat) : Int)], rfl, rfl, rfl, (lz.entries_length k).symm, lz.wr_start HK.out hr hf hxk, by rw [show (1 : Nat) = 0 + 1 from rfl, HTK.out]; rfl⟩⟩
    ·have HW := hd_ hw
     have HOUT := hd_ hout;have hvl := hw.virtLen;have hless := hw.less;have hcl := hw.str.lt;have hcv : c < 4096 := (by split at hvl <;> omega);have hcode := hw.code;have hmost := hw.most;have hfits := hw.fits;clear hw hout HST;obtain ⟨D, hown, hD⟩ := HC.out;have HOWN := hd_ hown;have hDx := hD c x hcv hxb.1 hxb.2;have hkey := keyOf_pair c x (by omega) hxb;cases hcd : codes c x with
     | some c' =>
      rw [hcd] at hDx;obtain ⟨hhas, hat'⟩ := hDx;have HH := hd_ hhas;have HA := hd_ hat';have HCD := hd_ hcd;clear hD hhas hat' hcd;go_wp2_with (at_lookup; go_must (refine wpList_lookup_own_ok_int _ rfl _ _ 142 rfl 146 3 .i64 law_pair Tryz.underlying142 Tryz.underlying3 (zeroInt _) mb cnt D rfl hown _ _ rfl hkey ?_; intro c2 hat hwc; rw [HH.out]; rw [HA.out] at hat; injection hat with hat; injection hat with _ hat; subst hat))
      go_roundg (n - (i + 1))
      case measure => have := Hg.out; omega
      case rel =>
       exact ⟨i + 1, mb, cnt, T, v, _, _, codes, by omega, rfl, rfl, by go_num, HE.out, HC.out, Nat.le_succ_of_le HCN.out, HML.out, HBL.out, by have := HT.out; omega, .inr ⟨by omega, st, V, c', t ++ [((x : Nat) : Int)], rfl, rfl, rfl, rfl, HW.out.known HCD.out, by rw [HTK.out, <- HOUT.out, List.append_assoc]⟩⟩
     | none =>
      rw [hcd] at hDx;have HH := hd_ hDx;clear hD hDx hcd hown;have hLb : (lz.bitsOfAll up T).length + 32 <= 1099511627776 := by
       have := lz.bitsAll_len up hfits;have := HT.out;omega
      have CP := hd_ (packput_any st.ahead.isSome HE.out hb0w c (by omega) hmost (by omega) HK.out.few hLb);obtain ⟨N, hN⟩ : ∃ N, V.length = N := ⟨_, rfl⟩;have hw2 : (if st.ahead.isSome = true then lz.bump k (st.tab.length + 1) st.width else st.width) = (lz.after k st V c t).width := by
       unfold lz.after;dsimp only;rw [hvl];split <;> rfl
      have hn2 : (st.tab.length + if st.ahead.isSome = true then 1 else 0) = N := (by rw [<- hN, hvl]);rw [hw2, hn2] at CP;have HNN := hd_ hN;have hN2 : N <= 4090 := (by split at hvl <;> omega);obtain ⟨W2, hW2⟩ : ∃ W2, (lz.after k st V c t).width = W2 := ⟨_, rfl⟩;rw [hW2] at CP;have HW2 := hd_ hW2;clear hw2 hn2 hvl hN hW2 hLb;go_wp2_with (at_lookup; go_must (refine wpList_lookup_own_ok_int _ rfl _ _ 142 rfl 146 3 .i64 law_pair Tryz.underlying142 Tryz.underlying3 (zeroInt _) mb cnt D rfl HOWN.out _ _ rfl hkey ?_; intro c2 hat hwc; rw [HH.out]; clear hat))
      refine CP.out.mono ?_;rintro e w2 ⟨rfl, v2, he2, hf2⟩;rw [<- lz.bitsOfAll_snoc] at he2;have HE2 := hd_ he2;have HC2 := hd_ (lz.codes_fr HC.out HE.out hf2);have HB2 := hd_ (HBL.out.trans hf2.below);clear he2 hf2 CP;obtain ⟨D2, hown2, hD2⟩ := HC2.out;have HD2 := hd_ hD2;have n2 := (cr_ w2 0 HE2.out.nbox (Value.int .i64 (N : Nat)) rfl);have hcnt : cnt < maxLen := (by have := HCN.out; unfold maxLen; omega);have hwf : (Lit.int .i64 (N : Nat)).wf = true := (by simp [Lit.wf, IntKind.min, IntKind.max, IntKind.bits, IntKind.signed]; omega);clear hD2;have HB2s : b0 <= w2.heap.size := (by have := HB2.out.size; have := HB00.out; omega);by_cases hfull : 4090 <= N
      ·have hfi : (4090 : Int) <= (N : Int) := by omega
       go_wp2_with (at_mapUpdate; go_must (refine wpList_mapUpdate_own _ rfl _ _ _ 142 rfl 146 3 law_pair Tryz.underlying142 _ mb cnt _ rfl hown2 hcnt _ _ _ rfl rfl hkey _ [] (plainElem_int Tryz.underlying3 hwf) ?_; intro w3 hown3 hg3; have HE3 := hd_ (HE2.out.map HC2.out.block.choose_spec.choose_spec hg3); have HMAP := hd_ hown3; clear hown3; have n3 := (cr_ w3 0 HE3.out.nbox (Value.int .i64 (N : Nat)) rfl); have n4 := (cr_ w3 0 HE3.out.wbox (Value.pointer (some ⟨g, 0, none⟩)) rfl); have n5 := (cr_ w3 0 HE3.out.kbox (Value.int .i64 (k.clear : Nat)) rfl); have n6 := (cr_ w3 0 HE3.out.dbox (Value.int .i64 (W2 : Nat)) rfl)))
       have hB3 : Below b0 w0 w3 := HB2.out.grown hg3 HB2s (fun j e => by cases e; exact HML.out);have HB3 := hd_ hB3;have hb3s : b0 <= w3.heap.size := (by have := hB3.size; have := HB00.out; omega);have hfits2 := hfits.snoc hcode hmost;have hL3 : (lz.bitsOfAll up (T ++ [(c, st.width)])).length + 32 <= 1099511627776 := by
        have h1 := lz.bitsAll_len up hfits2;have h2 := HT.out;simp only [List.length_append, List.length_singleton] at h1;omega
       have hwf2 := HW.out.full HK.out hxk;have hW12 : W2 <= 12 := by
        have h1 := (hwf2.fits (k.clear, (lz.after k st V c t).width) (by simp)).2;simp only at h1;rw [HW2.out] at h1;exact h1
       rw [HW2.out] at hwf2;have HWF := hd_ hwf2;refine (put_any HE3.out.wr hb3s k.clear W2 (by omega) (by omega) hL3).mono ?_;rintro e w4 ⟨rfl, v4, hw4, hf4⟩;rw [<- lz.bitsOfAll_snoc] at hw4;have HE4 := hd_ (HE3.out.step hw4 hf4);have HB4 := hd_ (HB3.out.trans hf4.below);clear hown2 hg3 hwf2 hfits2 hL3 hB3 hw4 hf4 HMAP n3 n4 n5 n6;go_wp2_with fail
       have d0 := (cr_ w4 0 HE4.out.kbox (Value.int .i64 (k.clear : Nat)) rfl);have d1 := (cr_ w4 1 HE4.out.kbox (Value.int .i64 (k.width : Nat)) rfl);have d2 := (cr_ w4 0 HE4.out.dbox (Value.int .i64 (W2 : Nat)) rfl);have d3 := (cr_ w4 0 HE4.out.nbox (Value.int .i64 (N : Nat)) rfl);have f2 := frozen_of_row w4 _ 0 _ _ HE4.out.dbox;have f3 := frozen_of_row w4 _ 0 _ _ HE4.out.nbox;have hk0 : kb < w4.heap.size := block_lt HE4.out.kbox;have hk1 : db < w4.heap.size := block_lt HE4.out.dbox;have hk2 : nb < w4.heap.size := block_lt HE4.out.nbox;have hne1 : db ≠ nb := HE4.out.apart;have hne2 : kb ≠ db := ne_of_types HE4.out.kbox HE4.out.dbox (by decide);have hne3 : kb ≠ nb := ne_of_types HE4.out.kbox HE4.out.nbox (by decide);have hmm := @run_makeMap Tryz.prog;have hb4s : b0 <= w4.heap.size := (by have := HB4.out.size; have := HB00.out; omega);have e2 : ((k.clear : Int) + 2) = ((k.clear + 2 : Nat) : Int) := (by omega);have E2 := hd_ e2;clear e2;go_region
       all_goals (go_wp2_with fail; go_roundg (n - (i + 1)))
       case measure => have := Hg.out; omega
       case rel =>
        rw [E2.out];have hE5 := (HE4.out.setWidth k.width).setNext (k.clear + 2);have hB5 : Below b0 w4 ((w4.setCell ⟨db, 0, none⟩ (.int .i64 (k.width : Nat))).setCell ⟨nb, 0, none⟩ (.int .i64 ((k.clear + 2 : Nat) : Int))) := ((Below.refl _ _).setCell HE4.out.dlies _).setCell HE4.out.nlies _;have hsz : ((w4.setCell ⟨db, 0, none⟩ (.int .i64 (k.width : Nat))).setCell ⟨nb, 0, none⟩ (.int .i64 ((k.clear + 2 : Nat) : Int))).heap.size = w4.heap.size := (by simp [World.setCell]);generalize (w4.setCell ⟨db, 0, none⟩ (.int .i64 (k.width : Nat))).setCell ⟨nb, 0, none⟩ (.int .i64 ((k.clear + 2 : Nat) : Int)) = w5 at *;have hb5s : b0 <= w5.heap.size := (by omega);have hnew := heap_alloc_new w5 (.map #[] 0);have hB6 : Below w5.heap.size w5 (w5.alloc (.map #[] 0)).drew := ((Below.refl _ _).alloc (Nat.le_refl _) _).drew;have h2 : T.length + 1 + 1 <= 2 * (i + 1) + 1 := (by have := HT.out; omega);refine ⟨i + 1, w4.heap.size, 0, T ++ [(c, st.width)] ++ [(k.clear, W2)], v4, k.width, k.clear + 2, fun _ _ => none, by omega, rfl, rfl, by go_num, ?_, ?_, Nat.zero_le _, hb4s, ?_, by simpa using h2, .inr ⟨by omega, lz.start k (st.out ++ t), lz.entries k, x, [((x : Nat) : Int)], rfl, rfl, rfl, (lz.entries_length k).symm, HWF.out, by rw [HTK.out, <- HOUT.out]; rfl⟩⟩
        ·exact hE5.below hB6 hb5s
        ·rw [hsz] at hnew
         exact lz.codes_none hnew
        ·exact (HB4.out.trans hB5).trans (hB6.mono hb5s)
      ·have hfi : ¬ (4090 : Int) <= (N : Int) := by omega
       go_wp2_with (at_mapUpdate; go_must (refine wpList_mapUpdate_own _ rfl _ _ _ 142 rfl 146 3 law_pair Tryz.underlying142 _ mb cnt _ rfl hown2 hcnt _ _ _ rfl rfl hkey _ [] (plainElem_int Tryz.underlying3 hwf) ?_; intro w3 hown3 hg3; have HE3 := hd_ (HE2.out.map HC2.out.block.choose_spec.choose_spec hg3); have HMAP := hd_ hown3; clear hown3; have n3 := (cr_ w3 0 HE3.out.nbox (Value.int .i64 (N : Nat)) rfl); have n4 := (cr_ w3 0 HE3.out.wbox (Value.pointer (some ⟨g, 0, none⟩)) rfl); have n5 := (cr_ w3 0 HE3.out.kbox (Value.int .i64 (k.clear : Nat)) rfl); have n6 := (cr_ w3 0 HE3.out.dbox (Value.int .i64 (W2 : Nat)) rfl)))
       have hB3 : Below b0 w0 w3 := HB2.out.grown hg3 HB2s (fun j e => by cases e; exact HML.out);have hwn := HW.out.fresh HK.out hxk (by have := HNN.out; omega) (lz.upd codes c (x : Nat) N) (by rw [HNN.out]; exact lz.upd_in codes c _ N);have hcodes := lz.codes_put (m := N) hcv hxb HD2.out (by obtain ⟨es, clock, _, _, _, e⟩ := hown2; exact ⟨_, e⟩) HMAP.out;have HWN := hd_ hwn;have HCN2 := hd_ hcodes;have HB3 := hd_ hB3;clear hwn hcodes hB3 hown2 hg3;go_roundg (n - (i + 1))
       case measure => have := Hg.out; omega
       case rel =>
        have h2 : T.length + 1 <= 2 * (i + 1) + 1 := (by have := HT.out; omega);exact ⟨i + 1, mb, cnt + 1, T ++ [(c, st.width)], v2, W2, N, lz.upd codes c (x : Nat) N, by omega, rfl, rfl, by go_num, HE3.out, HCN2.out, Nat.succ_le_succ HCN.out, HML.out, HB3.out, by simpa using h2, .inr ⟨by omega, lz.after k st V c t, _, x, [((x : Nat) : Int)], rfl, rfl, HW2.out.symm, HNN.out.symm, HWN.out, by rw [HTK.out, <- HOUT.out]; rfl⟩⟩
   ·obtain rfl : i = n := by omega
    have m0 := (cr_ wr 0 HE.out.wbox (Value.pointer (some ⟨g, 0, none⟩)) rfl);have m1 := (cr_ wr 0 HE.out.kbox (Value.int .i64 (k.clear : Nat)) rfl);have m2 := (cr_ wr 0 HE.out.dbox (Value.int .i64 (width : Nat)) rfl);have hkm2 : k.clear + 1 <= 257 := (by omega);have e1 : ((k.clear : Int) + 1) = ((k.clear + 1 : Nat) : Int) := (by omega);have E1 := hd_ e1;clear e1;have HBW : Hid (Below w.heap.size w wr) := hd_ (by rw [HKB.out]; exact B0.out.trans (HBL.out.mono (by have := HB00.out; have := HSZ.out; omega)));have hws : w.heap.size <= b0 := (by have := HB00.out; have := HSZ.out; have := HKB.out; omega);rcases HST.out with ⟨rfl, rfl, rfl, rfl, rfl, rfl, rfl⟩ | ⟨hi0, st, V, c, t, rfl, rfl, rfl, rfl, hw, hout⟩
    ·obtain rfl : l = [] := List.eq_nil_of_length_eq_zero hll
     go_wp2_with fail
     rw [E1.out];refine (put_any HE.out.wr hb0w (k.clear + 1) k.width (by omega) (by omega) (by simp [lz.bitsOfAll, bt.bitsOf_length]; omega)).mono ?_;rintro e w3 ⟨rfl, v3, hw3, hf3⟩;rw [<- lz.bitsOfAll_snoc] at hw3;have hHE3 := HE.out.step hw3 hf3;have m4 := (cr_ w3 0 hHE3.wbox (Value.pointer (some ⟨g, 0, none⟩)) rfl);have hl1 : (lz.bitsOfAll up ([(k.clear, k.width)] ++ [(k.clear + 1, k.width)])).length = k.width + k.width := (by simp [lz.bitsOfAll, bt.bitsOf_length]);have CB := hd_ (wbytes_any hw3 (by rw [hl1]; omega) (by rw [hl1]; have := HK.out.low; omega));have HB3 := hd_ (HBW.out.trans (hf3.below.mono hws));clear hw3 hf3 hHE3 hl1;go_wp2_with fail
     refine CB.out.mono ?_;rintro e w4 ⟨vo, rfl, hfo, hbo⟩;have HFO := hd_ hfo;have HB4 := hd_ (HB3.out.trans (hbo.mono HB3.out.size));clear hfo hbo CB;go_wp2_with fail
     go_ret
     exact ⟨_, lz.tells_none HK.out, by simp, _, rfl, HFO.out.mono (Nat.le_trans HB3.out.size (Nat.le_refl _)), HB4.out⟩
    ·have HW := hd_ hw
     have HOUT := hd_ hout;have hvl := hw.virtLen;have hless := hw.less;have hcl := hw.str.lt;have hcv : c < 4096 := (by split at hvl <;> omega);have hcode := hw.code;have hmost := hw.most;have hfits := hw.fits;clear hw hout HST;have hLb : (lz.bitsOfAll up T).length + 32 <= 1099511627776 := by
      have := lz.bitsAll_len up hfits;have := HT.out;omega
     have CP := hd_ (packput_any st.ahead.isSome HE.out hb0w c (by omega) hmost (by omega) HK.out.few hLb);obtain ⟨N, hN⟩ : ∃ N, V.length = N := ⟨_, rfl⟩;have hw2 : (if st.ahead.isSome = true then lz.bump k (st.tab.length + 1) st.width else st.width) = (lz.after k st V c t).width := by
      unfold lz.after;dsimp only;rw [hvl];split <;> rfl
     rw [hw2] at CP;have htells := HW.out.tells HK.out;have hfits2 := hfits.snoc hcode hmost;have hW12 : (lz.after k st V c t).width <= 12 := by
      obtain ⟨T0, st', e, _, _, hft⟩ := htells;exact (hft (k.clear + 1, (lz.after k st V c t).width) (by simp)).2
     obtain ⟨W2, hW2⟩ : ∃ W2, (lz.after k st V c t).width = W2 := ⟨_, rfl⟩;rw [hW2] at CP htells hW12;have HTE := hd_ htells;clear hw2 hvl hN hW2 hLb htells;go_wp2_with fail
     refine CP.out.mono ?_;rintro e w2 ⟨rfl, v2, he2, hf2⟩;rw [<- lz.bitsOfAll_snoc] at he2;have HE2 := hd_ he2;have HB2 := hd_ (HBW.out.trans (hf2.below.mono hws));have hb2s : b0 <= w2.heap.size := (by have := hf2.below.size; omega);clear he2 hf2 CP m0 m1 m2;have m0 := (cr_ w2 0 HE2.out.wbox (Value.pointer (some ⟨g, 0, none⟩)) rfl);have m1 := (cr_ w2 0 HE2.out.kbox (Value.int .i64 (k.clear : Nat)) rfl);have m2 := (cr_ w2 0 HE2.out.dbox (Value.int .i64 (W2 : Nat)) rfl);go_wp2_with fail
     rw [E1.out];have hl2 := lz.bitsAll_len up hfits2;simp only [List.length_append, List.length_singleton] at hl2;refine (put_any HE2.out.wr hb2s (k.clear + 1) W2 (by omega) (by omega) (by have := HT.out; omega)).mono ?_;rintro e w3 ⟨rfl, v3, hw3, hf3⟩;rw [<- lz.bitsOfAll_snoc] at hw3;have hHE3 := HE2.out.step hw3 hf3;have m4 := (cr_ w3 0 hHE3.wbox (Value.pointer (some ⟨g, 0, none⟩)) rfl);have hl1 : 0 < (lz.bitsOfAll up (T ++ [(c, st.width)] ++ [(k.clear + 1, W2)])).length /\ (lz.bitsOfAll up (T ++ [(c, st.width)] ++ [(k.clear + 1, W2)])).length <= 1099511627776 := by
      rw [lz.bitsOfAll_snoc, List.length_append, bt.bitsOf_length];have := HT.out;have hW : 0 < W2 := by
       obtain ⟨_, _, e, _, _, hft⟩ := HTE.out;have h3 := (hft (k.clear + 1, W2) (by simp)).1;rcases Nat.eq_zero_or_pos W2 with h0 | h0
       ·simp only [h0, Nat.pow_zero] at h3; omega
       ·exact h0
      omega
     have CB := hd_ (wbytes_any hw3 hl1.2 hl1.1);have HB3 := hd_ (HB2.out.trans (hf3.below.mono hws));clear hw3 hf3 hHE3 hl1 hl2;go_wp2_with fail
     refine CB.out.mono ?_;rintro e w4 ⟨vo, rfl, hfo, hbo⟩;have HFO := hd_ hfo;have HB4 := hd_ (HB3.out.trans (hbo.mono HB3.out.size));clear hfo hbo CB;go_wp2_with fail
     go_ret
     have hlt' : l.take i = l := List.take_of_length_le (by omega);refine ⟨T ++ [(c, st.width)] ++ [(k.clear + 1, W2)], ?_, ?_, _, rfl, HFO.out.mono HB3.out.size, HB4.out⟩
     ·rw [<- hlt', <- HOUT.out]
      exact HTE.out
     ·have := HT.out
      simp only [List.length_append, List.length_singleton];omega
end Go.Proofs.YthpckmcgbmfmcaaGreatDoor
