/- Texts of this claim, joined. -/
import Derived.Test.YthpckmcgbmfmcaaGreatDoorM45
set_option maxRecDepth 100000
set_option maxHeartbeats 12800000
namespace Go.Proofs.YthpckmcgbmfmcaaGreatDoor
open Go.RowKit Go.Sort
namespace bt
def big (l : List Int) (at' : Nat) : Nat -> Nat
 | 0 => 0
 | i + 1 => 256 * big l at' i + (l.getD (at' + i) 0).toNat
theorem big_lt {l : List Int} (h : sm.Bytes l) (at' : Nat) : ∀ i, big l at' i < 256 ^ i
 | 0 => Nat.one_pos
 | i + 1 => by
  have h1 := big_lt h at' i;have h2 := byte_getD h (at' + i);rw [big, Nat.pow_succ];omega
end bt
theorem get_or (v x : Nat) (hv : v < 16777216) (hx : x < 256) : bits .or .u32 ((256 * v : Nat) : Int) (x : Int) = ((256 * v + x : Nat) : Int) := by
 have := u32_or_nat (256 * v) x (by omega) (by omega);rw [<- Nat.two_pow_add_eq_or_of_lt (i := 8) hx v] at this;exact this
theorem there_any (a : Option Addr) (n cap at' : Nat) (w : World) (hn : n <= 1099511627776) (h : at' + 4 <= n) :
  Calls Tryz.prog 67 #[.slice a n cap, .int .i64 at', .int .i64 4] w fun e w' => e = .returned (.int .i64 0) /\ w = w' := by
 obtain ⟨z, hz⟩ : ∃ z, n - 4 = z := ⟨_, rfl⟩;have e1 : IntKind.i64.wrap ((n : Int) - 4) = (z : Int) := i64o (by omega) (by omega);have h1 : ¬ (z : Int) < (at' : Int) := by omega
 have h2 : ¬ z < at' := by omega
 have h3 : ¬ (at' : Int) < 0 := by omega
 clear hz h;go_enter Tryz.func67, Tryz.ntmps67
 go_wp2_with fail
 go_ret
 exact ⟨rfl, rfl⟩
theorem get_any (a : Option Addr) (n cap : Nat) (l : List Int) (at' : Nat) (w : World) (h : Sl .u8 w a n cap l) (hn : n <= 1099511627776) (hat : at' + 4 <= n) :
  Calls Tryz.prog 23 #[.slice a n cap, .int .i64 at', .int .i64 4, .bool true] w fun e w' => e = .returned (.tuple #[.int .u32 (bt.big l at' 4 : Nat), .int .i64 0]) /\ w = w' := by
 have KT := hd_ (there_any a n cap at' w hn hat);obtain ⟨bb, bo, rfl, hc⟩ := h.cells (by omega);have HC := hd_ hc;have HBY := hd_ h.bytes;have hfit := h.fits;clear h hc;go_enter Tryz.func23, Tryz.ntmps23
 go_wp2_with fail
 refine KT.out.mono ?_;rintro e w1 ⟨rfl, rfl⟩;clear KT;go_wp2_with fail
 go_loopg [11, 22] 4 (fun gk s11 s22 wr => ∃ i : Nat, i <= 4 /\ gk = 4 - i /\ s11 = .int .u32 (bt.big l at' i : Nat) /\ s22 = .int .i64 (i : Nat) /\ wr = w)
 case atStart => exact ⟨0, by decide, rfl, rfl, by go_num, rfl⟩
 case round =>
  obtain ⟨i, hi, hg, rfl, rfl, rfl⟩ := hrel;have Hg := hd_ hg;clear hg;by_cases hlt : i < 4
  ·have hv := bt.big_lt HBY.out at' i
   have hv2 : 256 ^ i <= 256 ^ 3 := Nat.pow_le_pow_right (by decide) (by omega);have hv3 : bt.big l at' i < 16777216 := Nat.lt_of_lt_of_le hv hv2;have hyb := byte_getD HBY.out (at' + i);obtain ⟨y, hy⟩ := Int.eq_ofNat_of_zero_le hyb.1;have c0 := HC.out (at' + i) (by omega);have HBG : Hid (bt.big l at' (i + 1) = 256 * bt.big l at' i + y) := hd_ (by rw [bt.big, hy]; rfl);rw [hy] at c0 hyb;have hor := get_or (bt.big l at' i) y hv3 (by omega);have e0 : IntKind.i64.wrap ((at' : Int) + (i : Int)) = ((at' + i : Nat) : Int) := i64o (by omega) (by omega);obtain ⟨v, hve⟩ : ∃ v, bt.big l at' i = v := ⟨_, rfl⟩;rw [hve] at hv3 hor HBG ⊢;have e1 : IntKind.u32.wrap ((v : Int) * 256) = ((256 * v : Nat) : Int) := (by rw [IntKind.wrap_u32]; omega);obtain ⟨v2, hv2e⟩ : ∃ z, 256 * v = z := ⟨_, rfl⟩;rw [hv2e] at e1 hor HBG;obtain ⟨v3, hv3e⟩ : ∃ z, v2 + y = z := ⟨_, rfl⟩;rw [hv3e] at hor HBG;obtain ⟨k, hk⟩ : ∃ z, at' + i = z := ⟨_, rfl⟩;rw [hk] at c0 e0;have hkn : (k : Int) < (n : Int) := (by omega);have hkn2 : k < n := (by omega);have hil : (i : Int) < 4 := (by omega);have e4 : IntKind.u32.wrap (y : Int) = (y : Int) := (by rw [IntKind.wrap_u32]; omega);clear hv hv2 hyb hy hve hv2e hv3e hk;go_wp2_with fail
   go_roundg (4 - (i + 1))
   case measure => have := Hg.out; omega
   case rel => exact ⟨i + 1, by omega, rfl, by rw [HBG.out], by go_num, rfl⟩
  ·obtain rfl : i = 4 := by omega
   go_wp2_with fail
   go_ret2
   exact ⟨rfl, rfl⟩
theorem own_sl8 {base : Nat} {w : World} {v : Value} {n : Nat} {l : List Int} (h : w.ownsRow base 5 1 v n (l.map (Value.int .u8))) (hb : sm.Bytes l) : ∃ a c, v = .slice a n c /\ Sl .u8 w a n c l := by
 rcases h.2 with ⟨h', h0⟩ | ⟨g, cap, cur, h', _⟩
 ·have hl := h.1
  simp at hl h0;subst h0;simp at hl;subst hl;exact ⟨none, 0, h', Sl.nil⟩
 ·subst h'
  exact ⟨_, cap, rfl, Fresh.sl h (wf_of_bytes hb)⟩
namespace df
theorem be4_bytes {s : Nat} (h : s < 4294967296) : sm.Bytes (be4 s) := by
 intro x hx;unfold be4 at hx;simp only [List.mem_cons, List.not_mem_nil, or_false] at hx;rcases hx with rfl | rfl | rfl | rfl <;> omega
theorem big_be4 (p : List Int) {s : Nat} (h : s < 4294967296) : bt.big (p ++ be4 s) p.length 4 = s := by
 have g : ∀ i, i < 4 -> (p ++ be4 s).getD (p.length + i) 0 = (be4 s).getD i 0 := fun i hi => by
  rw [List.getD_eq_getElem?_getD, List.getElem?_append_right (by omega), Nat.add_sub_cancel_left, <- List.getD_eq_getElem?_getD]
 have e0 : (be4 s).getD 0 0 = ((s / 16777216 : Nat) : Int) := rfl;have e1 : (be4 s).getD 1 0 = ((s / 65536 % 256 : Nat) : Int) := rfl;have e2 : (be4 s).getD 2 0 = ((s / 256 % 256 : Nat) : Int) := rfl;have e3 : (be4 s).getD 3 0 = ((s % 256 : Nat) : Int) := rfl;unfold bt.big;unfold bt.big;unfold bt.big;unfold bt.big;unfold bt.big;rw [g 0 (by decide), g 1 (by decide), g 2 (by decide), g 3 (by decide), e0, e1, e2, e3];simp only [Int.toNat_natCast];omega
end df
def IZlibPost (l : List Int) (w : World) (e : Ending) (w' : World) : Prop :=
 ∃ v, e = .returned (.tuple #[v, .int .i64 0]) /\ w'.ownsRow w.heap.size 5 1 v l.length (l.map (Value.int .u8)) /\ Below w.heap.size w w'
theorem izlib_any (bb bo n cap most : Nat) (S : List Bool) (l : List Int) (w : World) (h : Sl .u8 w (some ⟨bb, bo, none⟩) n cap ([120, 156] ++ bt.bytes false S ++ df.be4 (sm.adlOn 1 l))) (hst : df.Stream l S) (hby : sm.Bytes l) (hl : l.length <= most) (hm : most <= 17179869184) (hn : n <= 34359738368) :
  Calls Tryz.prog 7 #[.slice (some ⟨bb, bo, none⟩) n cap, .int .i64 (most : Nat)] w (IZlibPost l w) := by
 have hs := sm.adlOn_lt 1 l;obtain ⟨s, hse⟩ : ∃ z, sm.adlOn 1 l = z := ⟨_, rfl⟩;rw [hse] at h hs;obtain ⟨u, hu⟩ : ∃ z, (S.length + 7) / 8 = z := ⟨_, rfl⟩;have hlen : n = 2 + u + 4 := by
  have h1 := h.len;rw [List.length_append, List.length_append, bt.bytes_length, hu] at h1;exact h1.symm
 have h2 := h.drop (m := 2) (by omega);have hd : ([120, 156] ++ bt.bytes false S ++ df.be4 s).drop 2 = bt.bytes false (df.withTail S (df.be4 s)) := by
  rw [df.withTail_bytes S (df.be4_bytes hs), List.append_assoc];rfl
 rw [hd] at h2;obtain ⟨E, hE⟩ := df.withTail_pre S (df.be4 s);have CR := hd_ (fun w' (hb : Below w.heap.size w w') => iraw_any bb (bo + 2) (n - 2) (cap - 2) most (df.withTail S (df.be4 s)) S E l w' (h2.below hb) hE hst hby hl hm (by omega));have CG := hd_ (fun w' (hb : Below w.heap.size w w') => get_any _ n cap _ (2 + u) w' (h.below hb) (by omega) (by omega));have hbig : bt.big ([120, 156] ++ bt.bytes false S ++ df.be4 s) (2 + u) 4 = s := by
  have := df.big_be4 ([120, 156] ++ bt.bytes false S) hs
  rwa [List.length_append, bt.bytes_length, hu] at this
 rw [hbig] at CG;obtain ⟨bb', bo', er, hce⟩ := h.cells (by omega);cases er;have k0 := hce 0 (by omega);have k1 := hce 1 (by omega);have k0' : w.cell? ⟨bb, bo, none⟩ = some (.int .u8 120) := k0;have k1' : w.cell? ⟨bb, bo + 1, none⟩ = some (.int .u8 156) := k1;have HBY := hd_ hby;have HU := hd_ hu;have HSE := hd_ hse;have hfit := h.fits;have d1 : bits .and .u8 120 15 = 8 := by decide
 have d2 : bits .and .u8 156 32 = 0 := by decide
 have d3 : bits .or .i64 30720 156 = 30876 := by decide
 have hn2 : 2 <= n := by omega
 have g1 : (2 : Int) <= (n : Int) := by omega
 have g2 : ¬ cap = 2 := by omega
 have hn20 : u <= 34359738368 := by omega
 clear h h2 hd hE hst hby hl hm hbig hce k0 k1 hu hse hlen;go_enter Tryz.func7, Tryz.ntmps7
 go_upto_region 3 with (fail)
 go_quiet (fail)
 have hb1 : Below w.heap.size w (w.drewN nq) := below_drewN (Below.refl _ _) _;have HB1 := hd_ hb1;have CR1 := hd_ (CR.out _ hb1);clear hb1 CR k0' k1' d1 d2 d3;generalize w.drewN nq = w1 at *;have wu : IntKind.i64.wrap (2 + (u : Int)) = ((2 + u : Nat) : Int) := i64o (by omega) (by omega);obtain ⟨u2, hu2⟩ : ∃ z, 2 + u = z := ⟨_, rfl⟩;rw [hu2] at wu CG;clear hu2;go_wp2_with fail
 refine CR1.out.mono ?_;rintro e w2 ⟨v2, rfl, ho2, hb2⟩;rw [HU.out];have HB2 := hd_ (HB1.out.trans (hb2.mono HB1.out.size));have HO2 := hd_ (World.ownsRow.mono ho2 HB1.out.size);have CG2 := hd_ (CG.out w2 HB2.out);obtain ⟨a2, c2, ev, hsl2⟩ := own_sl8 HO2.out HBY.out;subst ev;have CA := hd_ (adler_any a2 l.length c2 l w2 rfl hsl2.fits hsl2.most hsl2.bytes hsl2.rd);rw [HSE.out] at CA;clear ho2 hb2 CR1 CG hsl2;go_wp2_with fail
 refine CG2.out.mono ?_;rintro e w3 ⟨rfl, rfl⟩;clear CG2;go_wp2_with fail
 refine CA.out.mono ?_;rintro e w4 ⟨rfl, rfl⟩;clear CA;go_wp2_with fail
 go_ret2
 exact ⟨_, rfl, HO2.out, HB2.out⟩
def RbPost (bb bo n cap P' : Nat) (d : List Int) (w : World) (e : Ending) (w' : World) : Prop :=
 ∃ a c, e = .returned (.tuple #[.agg #[.slice (some ⟨bb, bo, none⟩) n cap, .bool false, .int .i64 (P' : Nat)], .slice a d.length c, .int .i64 0]) /\ Sl .u8 w' a d.length c d /\ w'.ownsRow w.heap.size 5 1 (.slice a d.length c) d.length (d.map (Value.int .u8)) /\ Below w.heap.size w w'
theorem rb_run (W : World) (base m c : Nat) (d : List Int) (a : Option Addr) (q : Nat) (hown : W.ownsRow base 5 1 (.slice (some ⟨q, 0, none⟩) 0 0) 0 []) (hs : Sl .u8 W a m c d) (hm : m <= 137438953472) (hb : base <= W.heap.size) :
  ∃ v' w', (Builtin.append_ #[22, 22] 22 #[.slice (some ⟨q, 0, none⟩) 0 0, Value.slice a m c]).run Tryz.prog W = .ok v' w' /\ ∃ a' c', v' = .slice a' m c' /\ w'.ownsRow base 5 1 (.slice a' m c') m (d.map (Value.int .u8)) /\ W.grownBy w' (some q) := by
 obtain ⟨v', w', h1, h2⟩ := run_append_sl W 22 base _ 0 [] hown a m c d hs (by omega) hb;obtain ⟨h3, h4⟩ := h2;rw [Nat.zero_add, List.nil_append] at h3;obtain ⟨a2, c2, rfl, _, _, _⟩ := own_slice' h3;exact ⟨_, w', h1, a2, c2, rfl, h3, h4⟩
theorem refBytes_any (bb bo n cap P m : Nat) (d : List Int) (w : World) (h : Sl .u8 w (some ⟨bb, bo, none⟩) n cap d) (hP : (P + 7) / 8 + m <= n) (hn : n <= 137438953472) :
  Calls Tryz.prog 70 #[.agg #[.slice (some ⟨bb, bo, none⟩) n cap, .bool false, .int .i64 (P : Nat)], .int .i64 (m : Nat)] w (RbPost bb bo n cap (8 * ((P + 7) / 8 + m)) ((d.drop ((P + 7) / 8)).take m) w) := by
 have e1 : IntKind.i64.wrap ((P : Int) + 7) = ((P + 7 : Nat) : Int) := i64o (by omega) (by omega);have e2 : Int.tdiv ((P + 7 : Nat) : Int) 8 = (((P + 7) / 8 : Nat) : Int) := by rw [Int.tdiv_eq_ediv_of_nonneg (by omega)]; omega
 obtain ⟨k, hk⟩ : ∃ k, (P + 7) / 8 = k := ⟨_, rfl⟩;rw [hk] at e2 hP ⊢;obtain ⟨P7, hP7⟩ : ∃ k, P + 7 = k := ⟨_, rfl⟩;rw [hP7] at e1 e2;have e3 : IntKind.i64.wrap (k : Int) = (k : Int) := i64i (by omega);have e4 : IntKind.i64.wrap ((n : Int) - (k : Int)) = ((n - k : Nat) : Int) := i64o (by omega) (by omega);have e5 : ¬ ((n - k : Nat) : Int) < (m : Int) := by omega
 have e5n : ¬ (n - k : Nat) < m := by omega
 have e6 : IntKind.i64.wrap ((k : Int) + (m : Int)) = ((k + m : Nat) : Int) := i64o (by omega) (by omega);have e7 : IntKind.i64.wrap (8 * ((k + m : Nat) : Int)) = ((8 * (k + m) : Nat) : Int) := i64o (by omega) (by omega);obtain ⟨lf, hlf⟩ : ∃ z, n - k = z := ⟨_, rfl⟩;rw [hlf] at e4 e5 e5n;have hlen := h.len;have hfit := h.fits;have hdl : ((d.drop k).take m).length = m := by rw [List.length_take, List.length_drop]; omega
 have sl2 : Sl .u8 w (if cap = k then some ⟨bb, bo, none⟩ else some ⟨bb, bo + k, none⟩) m (cap - k) ((d.drop k).take m) := by
  have h1 := (h.drop (m := k) (by omega)).take (m := m) (by omega);by_cases hck : cap = k
  ·rw [if_pos hck]
   exact ⟨h1.len, h1.fits, h1.most, (fun e => by cases e), h1.wf, .inl (List.eq_nil_of_length_eq_zero (by rw [hdl]; omega))⟩
  ·rw [if_neg hck]
   exact h1
 obtain ⟨km, hkm⟩ : ∃ z, k + m = z := ⟨_, rfl⟩;rw [hkm] at e6 e7 hP ⊢;obtain ⟨P8, hP8⟩ : ∃ z, 8 * km = z := ⟨_, rfl⟩;rw [hP8] at e7 ⊢;obtain ⟨d2, hd2⟩ : ∃ z, (d.drop k).take m = z := ⟨_, rfl⟩;rw [hd2] at sl2 hdl ⊢;have hmk : m = km - k := by omega
 have hm0 : km - k <= 137438953472 := by omega
 have HMK := hd_ hmk;rw [hmk] at sl2;have hkk : k <= km := by omega
 have hkc : km <= cap := by omega
 have HS := hd_ sl2;have HDL := hd_ hdl;have B0 := ((Below.refl w.heap.size w).alloc (Nat.le_refl _) (.cells #[.slice (some ⟨bb, bo, none⟩) n cap, .bool false, .int .i64 (P : Nat)] 53)).alloc (by simp) (.cells #[.slice none 0 0, .bool false, .int .i64 0] 53);obtain ⟨q0, q1⟩ := heap2 w (.cells #[.slice (some ⟨bb, bo, none⟩) n cap, .bool false, .int .i64 (P : Nat)] 53) (.cells #[.slice none 0 0, .bool false, .int .i64 0] 53);have HB0 := hd_ B0;have Q0 := hd_ q0;have Q1 := hd_ q1;have HKM := hd_ hkm;clear hmk B0 q0 q1 h hk hP7 hlf hlen hdl sl2 hkm hP8 hd2 hfit;go_enter Tryz.func70, Tryz.ntmps70
 go_upto_region 1 with (fail)
 obtain ⟨g, hg⟩ : ∃ g, w.heap.size = g := ⟨_, rfl⟩;have HG : Hid (w.heap.size <= g) := hd_ (Nat.le_of_eq hg);generalize (w.alloc (Obj.cells #[.slice (some ⟨bb, bo, none⟩) n cap, .bool false, .int .i64 (P : Nat)] 53)).alloc (Obj.cells #[.slice none 0 0, .bool false, .int .i64 0] 53) = w1 at *;rw [hg] at Q0 Q1 ⊢;obtain ⟨g', hg'⟩ : ∃ z, g + 1 = z := ⟨_, rfl⟩;rw [hg'] at Q1 ⊢;have HGG : Hid (w.heap.size <= g' /\ g' ≠ g) := hd_ (by omega);clear hg hg';have c0 := (cr_ w1 0 Q0.out (Value.slice (some ⟨bb, bo, none⟩) n cap) rfl);have c2 := (cr_ w1 2 Q0.out (Value.int .i64 P) rfl);have f2 := frozen_of_row w1 _ 2 _ _ Q0.out;have R0 : Hid ((w1.setCell ⟨g, 2, none⟩ (.int .i64 (P8 : Nat))).heap[g]? = some (.cells (rRow (some ⟨bb, bo, none⟩) n cap false P8) 53 (0, 0))) := hd_ (by rw [heap_setCell_same _ _ _ _ _ _ Q0.out]; rfl);have R1 : Hid ((w1.setCell ⟨g, 2, none⟩ (.int .i64 (P8 : Nat))).heap[g']? = some (.cells #[.slice none 0 0, .bool false, .int .i64 0] 53 (0, 0))) := hd_ (grown_block (grownBy_setCell3 _ _ _ _) Q1.out (fun e => HGG.out.2 (Option.some.inj e)));have HB1 : Hid (Below w.heap.size w (w1.setCell ⟨g, 2, none⟩ (.int .i64 (P8 : Nat)))) := hd_ (HB0.out.setCell (p := ⟨g, 2, none⟩) HG.out _);go_upto_region 7 with (fail)
 clear c0 c2 f2 HB0 Q0 Q1;generalize w1.setCell ⟨g, 2, none⟩ (.int .i64 (P8 : Nat)) = w2 at *;have cells : ∀ {W : World}, W.heap[g]? = some (.cells (rRow (some ⟨bb, bo, none⟩) n cap false P8) 53 (0, 0)) -> W.cell? ⟨g, 0, none⟩ = some (Value.slice (some ⟨bb, bo, none⟩) n cap) /\ W.cell? ⟨g, 1, none⟩ = some (Value.bool false) /\ W.cell? ⟨g, 2, none⟩ = some (Value.int .i64 P8) := fun {W} h => ⟨(cell_of_row W _ 0 _ _ (0, 0) h).trans rfl, (cell_of_row W _ 1 _ _ (0, 0) h).trans rfl, (cell_of_row W _ 2 _ _ (0, 0) h).trans rfl⟩
 have fz : ∀ {W : World} {cs : Array Value}, W.heap[g']? = some (.cells cs 53 (0, 0)) -> W.frozen? ⟨g', 0, none⟩ = false /\ W.frozen? ⟨g', 1, none⟩ = false /\ W.frozen? ⟨g', 2, none⟩ = false := fun {W cs} h => ⟨frozen_of_row W _ 0 _ _ h, frozen_of_row W _ 1 _ _ h, frozen_of_row W _ 2 _ _ h⟩
 have ba : Below w2.heap.size w2 (w2.alloc (Obj.cells #[] 5)) := (Below.refl _ _).alloc (Nat.le_refl _) _;have r0a := (ba.block _ (block_lt R0.out)).trans R0.out;have r1a := (ba.block _ (block_lt R1.out)).trans R1.out;have own0 := World.ownsRow_made w2 #[] 0 (base := w.heap.size) (e := 5) (size := 1) HB1.out.size (by decide) rfl;obtain ⟨x0, x1, x2⟩ := cells R0.out;obtain ⟨y0, y1, y2⟩ := cells r0a;obtain ⟨f0, f1, f2⟩ := fz R1.out;obtain ⟨h0, h1, h2⟩ := fz r1a;have RA : Hid (∃ v' w', (Builtin.append_ #[22, 22] 22 #[.slice (some ⟨w2.heap.size, 0, none⟩) 0 0, Value.slice (if cap = k then some ⟨bb, bo, none⟩ else some ⟨bb, bo + k, none⟩) (km - k) (cap - k)]).run Tryz.prog (w2.alloc (Obj.cells #[] 5)).drew = .ok v' w' /\ ∃ a' c', v' = .slice a' (km - k) c' /\ w'.ownsRow w.heap.size 5 1 (.slice a' (km - k) c') (km - k) (d2.map (Value.int .u8)) /\ w'.heap[g']? = some (.cells #[.slice none 0 0, .bool false, .int .i64 0] 53 (0, 0)) /\ w'.heap[g]? = some (.cells (rRow (some ⟨bb, bo, none⟩) n cap false P8) 53 (0, 0)) /\ Below w.heap.size w w') := hd_ (by
  obtain ⟨v', w', h1, a', c', h2, h3, h4⟩ := rb_run (w2.alloc (Obj.cells #[] 5)).drew w.heap.size (km - k) (cap - k) d2 (if cap = k then some ⟨bb, bo, none⟩ else some ⟨bb, bo + k, none⟩) w2.heap.size (ownsRow_below own0 (Below.drew (Below.refl _ _))) ((HS.out.below HB1.out).below (Below.drew ba)) hm0 (Nat.le_trans HB1.out.size (Nat.le_trans ba.size (Nat.le_refl _)));refine ⟨v', w', h1, a', c', h2, h3, grown_block h4 (show (w2.alloc (Obj.cells #[] 5)).drew.heap[g']? = _ from r1a) (fun e => ?_), grown_block h4 (show (w2.alloc (Obj.cells #[] 5)).drew.heap[g]? = _ from r0a) (fun e => ?_), ?_⟩
  ·have e1 := Option.some.inj e
   have e2 := block_lt R1.out;omega
  ·have e1 := Option.some.inj e
   have e2 := block_lt R0.out;omega
  ·exact (HB1.out.trans ((Below.drew ba).mono HB1.out.size)).grown h4 (Nat.le_trans HB1.out.size (Nat.le_trans ba.size (Nat.le_refl _))) (fun z e => by obtain rfl := Option.some.inj e; exact HB1.out.size))
 by_cases hck : cap = k
 ·have hd0 : d2 = [] := List.eq_nil_of_length_eq_zero (by rw [HDL.out, HMK.out]; omega)
  have z0 := (cr_ _ 0 r1a (Value.slice none 0 0) rfl);have z1 := (cr_ _ 1 r1a (Value.bool false) rfl);have z2 := (cr_ _ 2 r1a (Value.int .i64 0) rfl);have q1 := heap_setCell_same _ g' 0 _ _ (.slice (some ⟨bb, bo, none⟩) n cap) r1a;have q2 := heap_setCell_same _ g' 1 _ _ (.bool false) q1;have q3 := heap_setCell_same _ g' 2 _ _ (.int .i64 (P8 : Nat)) q2;have HR3 := hd_ q3;have HBA := HB1.out.trans (ba.mono HB1.out.size);have HB3 := hd_ (((HBA.setCell (p := ⟨g', 0, none⟩) HGG.out.1 (.slice (some ⟨bb, bo, none⟩) n cap)).setCell (p := ⟨g', 1, none⟩) HGG.out.1 (.bool false)).setCell (p := ⟨g', 2, none⟩) HGG.out.1 (.int .i64 (P8 : Nat)));have hap := row_apart own0 r1a (by decide);have HO3 := hd_ (((World.ownsRow.kept own0 (grownBy_setCell3 _ g' 0 (.slice (some ⟨bb, bo, none⟩) n cap)) hap).kept (grownBy_setCell3 _ g' 1 (.bool false)) hap).kept (grownBy_setCell3 _ g' 2 (.int .i64 (P8 : Nat))) hap);have hgg : ¬ g' = g := HGG.out.2;have hgg' : ¬ g = g' := fun e => HGG.out.2 e.symm
  subst hck;clear q1 q2 q3 HBA hap ba r0a r1a own0 cells fz RA
  go_region_law (fail)
  all_goals
   clear z0 z1 z2 x0 x1 x2 y0 y1 y2 f0 f1 f2 h0 h1 h2;generalize (((w2.alloc (Obj.cells #[] 5)).setCell ⟨g', 0, none⟩ (.slice (some ⟨bb, bo, none⟩) n cap)).setCell ⟨g', 1, none⟩ (.bool false)).setCell ⟨g', 2, none⟩ (.int .i64 (P8 : Nat)) = w9 at *;go_wp2_with fail
   refine bodyPost_ret (results_cell_tmp2 (p := 4) (q := 5) (q2 := 6) (ty := 53) rfl _ _ g' 53 _ (0, 0) _ _ _ rfl rfl rfl (show w9.drew.heap[g']? = _ from HR3.out) Tryz.underlying53 rfl (rSize (some ⟨bb, bo, none⟩) n cap false P8)) rfl ?_;exact ⟨_, _, rfl, ((Fresh.sl (k := .u8) HO3.out (fun x hx => by cases hx))).below (Below.drew (Below.refl _ _)), ownsRow_below HO3.out (Below.drew (Below.refl _ _)), HB3.out.drew⟩
 ·rw [if_neg hck] at RA
  have hgg : ¬ g' = g := HGG.out.2;have hgg' : ¬ g = g' := fun e => HGG.out.2 e.symm
  clear ba r0a r1a own0 cells fz
  go_region_law (refine step_of_append rfl (.tmp 29) (.tmp 36) 22 22 rfl RA.out ?_; rintro v' w' ⟨a', c', rfl, ho', hz', hx', hb'⟩; have j0 := (cr_ w' 0 hx' (Value.slice (some ⟨bb, bo, none⟩) n cap) rfl); have j1 := (cr_ w' 1 hx' (Value.bool false) rfl); have j2 := (cr_ w' 2 hx' (Value.int .i64 (P8 : Nat)) rfl); have HOW := hd_ ho'; have HZW := hd_ hz'; have HBW := hd_ hb'; have z0 := (cr_ w' 0 hz' (Value.slice none 0 0) rfl); have z1 := (cr_ w' 1 hz' (Value.bool false) rfl); have z2 := (cr_ w' 2 hz' (Value.int .i64 0) rfl); have k0 := frozen_of_row w' _ 0 _ _ hz'; have k1 := frozen_of_row w' _ 1 _ _ hz'; have k2 := frozen_of_row w' _ 2 _ _ hz'; clear ho' hz' hx' hb')
  all_goals
   have r1 := heap_setCell_same w' g' 0 _ _ (.slice (some ⟨bb, bo, none⟩) n cap) HZW.out;have r2 := heap_setCell_same _ g' 1 _ _ (.bool false) r1;have r3 := heap_setCell_same _ g' 2 _ _ (.int .i64 (P8 : Nat)) r2;have HR3 := hd_ r3;have HB3 := hd_ (((HBW.out.setCell (p := ⟨g', 0, none⟩) HGG.out.1 (.slice (some ⟨bb, bo, none⟩) n cap)).setCell (p := ⟨g', 1, none⟩) HGG.out.1 (.bool false)).setCell (p := ⟨g', 2, none⟩) HGG.out.1 (.int .i64 (P8 : Nat)));have hap : (Value.slice a' (km - k) c').ownBlock = none \/ (Value.slice a' (km - k) c').ownBlock ≠ some g' := row_apart HOW.out HZW.out (by decide);have HO3 := hd_ (((World.ownsRow.kept HOW.out (grownBy_setCell3 w' g' 0 (.slice (some ⟨bb, bo, none⟩) n cap)) hap).kept (grownBy_setCell3 _ g' 1 (.bool false)) hap).kept (grownBy_setCell3 _ g' 2 (.int .i64 (P8 : Nat))) hap);clear r1 r2 r3 j0 j1 j2 z0 z1 z2 k0 k1 k2 x0 x1 x2 y0 y1 y2 f0 f1 f2 h0 h1 h2 hap;generalize ((w'.setCell ⟨g', 0, none⟩ (.slice (some ⟨bb, bo, none⟩) n cap)).setCell ⟨g', 1, none⟩ (.bool false)).setCell ⟨g', 2, none⟩ (.int .i64 (P8 : Nat)) = w9 at *;go_wp2_with fail
   refine bodyPost_ret (results_cell_tmp2 (p := 4) (q := 5) (q2 := 6) (ty := 53) rfl _ _ g' 53 _ (0, 0) _ _ _ rfl rfl rfl HR3.out Tryz.underlying53 rfl (rSize (some ⟨bb, bo, none⟩) n cap false P8)) rfl ?_;have hml : d2.length = km - k := (by rw [HDL.out]; exact HMK.out);obtain ⟨a3, c3, e3, hsl⟩ := own_sl8 HO3.out HS.out.bytes;injection e3 with q1 q2 q3
   subst q1 q3;unfold RbPost;rw [hml];exact ⟨a', c', rfl, hsl, HO3.out, HB3.out⟩
theorem xor_sub {m : Nat} (h : m <= 65535) : m ^^^ 65535 = 65535 - m := by
 have h1 := congrArg BitVec.toNat (BitVec.xor_allOnes (x := BitVec.ofNat 16 m));rw [BitVec.toNat_xor, BitVec.toNat_not, BitVec.toNat_ofNat, BitVec.toNat_allOnes, Nat.mod_eq_of_lt (by omega)] at h1;exact h1
theorem Mx.rd {b1 x rb ro n cap P oc most : Nat} {w0 w : World} {ao : Option Addr} {out : List Int} (h : Mx b1 x w0 w rb ro n cap P ao oc most out) (P' : Nat) : Mx b1 x w0 (setRd w x rb ro n cap P') rb ro n cap P' ao oc most out :=
 ⟨(st_setRd h.head P').1, World.ownsRow.kept h.row (st_setRd h.head P').2 (row_apart h.row h.head (by decide)), h.of.own (st_setRd h.head P').2 h.hx h.hw, h.hx, h.hw⟩
theorem sstored_any {b1 bb bo n cap P most : Nat} {L : List Bool} {out : List Int} {ao : Option Addr} {oc : Nat} {w : World} (h : Sl .u8 w (some ⟨bb, bo, none⟩) n cap (bt.bytes false L)) (hn : n = (L.length + 7) / 8) (hn2 : n <= 137438953472) (hbb : bb < b1)
  (hrow : w.ownsRow b1 5 1 (.slice ao out.length oc) out.length (out.map (Value.int .u8))) (hw : b1 <= w.heap.size) (hP : P <= 549755813888) (q m : Nat) (hq : 8 * ((P + 7) / 8) = q) (h1 : bt.valTo false L q 16 = m) (h2 : bt.valTo false L (q + 16) 16 = m ^^^ 65535) (hm : m <= 65535) (hbn : q + 32 + 8 * m <= 8 * n) (hfit : out.length + m <= most) (hsm : most <= 17179869184) :
  Calls Tryz.prog 25 #[.agg (stRow bb bo n cap P ao out.length oc most)] w (StPost b1 bb bo n cap (q + 32 + 8 * m) most (out ++ ((bt.bytes false L).drop ((q + 32) / 8)).take m) w) := by
 rw [xor_sub hm] at h2;have CA := hd_ (fun w' => refAlign_any (some ⟨bb, bo, none⟩) n cap P false w' (by omega));rw [hq] at CA;have HS := hd_ h;have HN := hd_ hn;have HBB := hd_ hbb;have H1 := hd_ h1;have H2 := hd_ h2;have hq8 : (q + 32 + 7) / 8 = (q + 32) / 8 := by omega
 have hq9 : 8 * ((q + 32) / 8 + m) = q + 32 + 8 * m := by omega
 have HQ8 := hd_ hq8;have HQ9 := hd_ hq9;have hqn : (q + 32) / 8 + m <= n := by omega
 have hqb : q <= 549755813900 := by omega
 have e1 : IntKind.i64.wrap (65535 - (m : Int)) = ((65535 - m : Nat) : Int) := i64o (by omega) (by omega);obtain ⟨xm, hxm⟩ : ∃ xm, 65535 - m = xm := ⟨_, rfl⟩;rw [hxm] at e1 H2;have e4 : IntKind.i64.wrap ((most : Int) - (out.length : Int)) = ((most - out.length : Nat) : Int) := i64o (by omega) (by omega);have e5 : ¬ ((most - out.length : Nat) : Int) < (m : Int) := by omega
 have e6 : ¬ (most - out.length : Nat) < m := by omega
 obtain ⟨lft, hlft⟩ : ∃ z, most - out.length = z := ⟨_, rfl⟩;rw [hlft] at e4 e5 e6;obtain ⟨q0, q1⟩ := heap2 w (.cells (stRow bb bo n cap P ao out.length oc most) 55) (.cells #[.slice none 0 0, .bool false, .int .i64 0, .slice none 0 0, .int .i64 0, .int .i64 0] 55);have B0 : Below w.heap.size w _ := ((Below.refl w.heap.size w).alloc (Nat.le_refl _) (.cells (stRow bb bo n cap P ao out.length oc most) 55)).alloc (by simp) (.cells #[.slice none 0 0, .bool false, .int .i64 0, .slice none 0 0, .int .i64 0, .int .i64 0] 55);have HMX : Hid (Mx b1 w.heap.size w _ bb bo n cap P ao oc most out) := hd_ ⟨q0, ownsRow_below hrow B0, .of_below B0 hw, Nat.le_refl _, hw⟩;have HZ : Hid (((w.alloc (.cells (stRow bb bo n cap P ao out.length oc most) 55)).alloc (.cells #[.slice none 0 0, .bool false, .int .i64 0, .slice none 0 0, .int .i64 0, .int .i64 0] 55)).heap[w.heap.size + 1]? = some (.cells stZero 55 (0, 0))) := hd_ q1;clear h hn hbb hrow hw hq h1 h2 hq8 hq9 hxm hlft q0 q1 B0;go_enter Tryz.func25, Tryz.ntmps25
 go_upto_region 1 with (fail)
 generalize (w.alloc (Obj.cells (stRow bb bo n cap P ao out.length oc most) 55)).alloc (Obj.cells #[.slice none 0 0, .bool false, .int .i64 0, .slice none 0 0, .int .i64 0, .int .i64 0] 55) = w1 at *;obtain ⟨g, hg⟩ : ∃ z, w.heap.size = z := ⟨_, rfl⟩;obtain ⟨g', hg'⟩ : ∃ z, g + 1 = z := ⟨_, rfl⟩;rw [hg] at HMX HZ ⊢;rw [hg'] at HZ ⊢;have HGG : Hid (w.heap.size <= g /\ w.heap.size <= g' /\ g ≠ g') := hd_ (by omega);clear hg hg';obtain ⟨⟨c0, c1, c2, _, _, _⟩, _⟩ := st_cells HMX.out.head;go_wp2_with fail
 refine (CA.out w1).mono ?_;rintro e w2 ⟨rfl, hb2⟩;have HM2 := hd_ (HMX.out.below hb2);have HZ2 := hd_ ((hb2.block _ (block_lt HZ.out)).trans HZ.out);clear hb2 CA HMX HZ c0 c1 c2;obtain ⟨_, f0, f1, f2, _⟩ := st_cells HM2.out.head;have HM3 : Hid (Mx b1 g w (setRd w2 g bb bo n cap q) bb bo n cap q ao oc most out) := hd_ (HM2.out.rd q);have HZ3 : Hid ((setRd w2 g bb bo n cap q).heap[g']? = _) := hd_ (grown_block (st_setRd HM2.out.head q).2 HZ2.out (fun e => HGG.out.2.2 (Option.some.inj e).symm));go_upto_region 3 with (fail)
 clear f0 f1 f2 HM2 HZ2;unfold setRd at HM3 HZ3;generalize ((w2.setCell ⟨g, 0, none⟩ (.slice (some ⟨bb, bo, none⟩) n cap)).setCell ⟨g, 1, none⟩ (.bool false)).setCell ⟨g, 2, none⟩ (.int .i64 (q : Nat)) = w3 at *;have CT := hd_ (stake_any bb bo n cap q L ao out.length oc most w3 (HS.out.keepB HM3.out.of.below HBB.out) 16 (by decide) (by omega) hn2);rw [H1.out] at CT;go_wp2_with (with_reducible refine wpList_load_row rfl 55 _ rfl g rfl 55 _ (0, 0) _ HM3.out.head Tryz.underlying55 rfl (stSize _ _ _ _ _ _ _ _ _) ?_)
 refine CT.out.mono ?_;rintro e w4 ⟨rfl, hb4⟩;have HM4 := hd_ (HM3.out.below hb4);have HZ4 := hd_ ((hb4.block _ (block_lt HZ3.out)).trans HZ3.out);clear hb4 CT HM3 HZ3;go_upto_region 4 with (with_reducible refine wpList_store_row rfl 55 _ _ rfl g _ rfl rfl 55 _ HM4.out.head (stSize bb bo n cap (q + 16) ao out.length oc most) (stSz _ _ _ _ _ _ _ _ _ _ _ _ _ _ _ _ _ _) (stOne _ _ _ _ _ _ _ _ _) ?_)
 have HM5 := hd_ (HM4.out.read (q + 16));have HZ5 := hd_ (grown_block (grownBy_setRow w4 g (stRow bb bo n cap (q + 16) ao out.length oc most)) HZ4.out (fun e => HGG.out.2.2 (Option.some.inj e).symm));clear HM4 HZ4;generalize w4.setRow g (stRow bb bo n cap (q + 16) ao out.length oc most) = w5 at *;have c5 := (st_cells HM5.out.head).1.2.2.2.2.2;have CT := hd_ (stake_any bb bo n cap (q + 16) L ao out.length oc most w5 (HS.out.keepB HM5.out.of.below HBB.out) 16 (by decide) (by omega) hn2);rw [H2.out] at CT;go_wp2_with (with_reducible refine wpList_load_row rfl 55 _ rfl g rfl 55 _ (0, 0) _ HM5.out.head Tryz.underlying55 rfl (stSize _ _ _ _ _ _ _ _ _) ?_)
 refine CT.out.mono ?_;rintro e w6 ⟨rfl, hb6⟩;have HM6 := hd_ (HM5.out.below hb6);have HZ6 := hd_ ((hb6.block _ (block_lt HZ5.out)).trans HZ5.out);clear hb6 CT HM5 HZ5 c5;rw [show q + 16 + 16 = q + 32 from rfl];go_upto_region 7 with (with_reducible refine wpList_store_row rfl 55 _ _ rfl g _ rfl rfl 55 _ HM6.out.head (stSize bb bo n cap (q + 32) ao out.length oc most) (stSz _ _ _ _ _ _ _ _ _ _ _ _ _ _ _ _ _ _) (stOne _ _ _ _ _ _ _ _ _) ?_)
 have HM7 := hd_ (HM6.out.read (q + 32));have HZ7 := hd_ (grown_block (grownBy_setRow w6 g (stRow bb bo n cap (q + 32) ao out.length oc most)) HZ6.out (fun e => HGG.out.2.2 (Option.some.inj e).symm));clear HM6 HZ6;generalize w6.setRow g (stRow bb bo n cap (q + 32) ao out.length oc most) = w7 at *;obtain ⟨⟨c0, c1, c2, c3, c4, c5⟩, _⟩ := st_cells HM7.out.head;have CB := hd_ (refBytes_any bb bo n cap (q + 32) m (bt.bytes false L) w7 (HS.out.keepB HM7.out.of.below HBB.out) (by rw [HQ8.out]; exact hqn) hn2);rw [HQ8.out, HQ9.out] at CB;obtain ⟨d2, hd2⟩ : ∃ z, ((bt.bytes false L).drop ((q + 32) / 8)).take m = z := ⟨_, rfl⟩;have HD2 : Hid (d2.length = m) := hd_ (by rw [<- hd2, List.length_take, List.length_drop, HS.out.len]; omega);rw [hd2] at CB;obtain ⟨PE, hPE⟩ : ∃ z, q + 32 + 8 * m = z := ⟨_, rfl⟩;rw [hPE] at CB;have HDE := hd_ hd2;have HPE := hd_ hPE;clear hd2 hPE;go_wp2_with fail
 refine CB.out.mono ?_;rintro e w8 ⟨ba, bc, rfl, hsl8, hob8, hb8⟩;have HM8 := hd_ (HM7.out.below hb8);have HZ8 := hd_ ((hb8.block _ (block_lt HZ7.out)).trans HZ7.out);clear CB HM7 HZ7 c0 c1 c2 c3 c4 c5 hb8;have hba : Below w8.heap.size w8 (w8.alloc (.cells #[.slice (some ⟨bb, bo, none⟩) n cap, .bool false, .int .i64 (PE : Nat)] 53)) := (Below.refl _ _).alloc (Nat.le_refl _) _;have hna := heap_alloc_new w8 (.cells #[.slice (some ⟨bb, bo, none⟩) n cap, .bool false, .int .i64 (PE : Nat)] 53 (0, 0));have HSL9 := hd_ (And.intro (ownsRow_below hob8 hba) hsl8.bytes);have HM9 := hd_ (HM8.out.below hba);have HZ9 := hd_ ((hba.block _ (block_lt HZ8.out)).trans HZ8.out);obtain ⟨w9, hw9⟩ : ∃ z, w8.alloc (.cells #[.slice (some ⟨bb, bo, none⟩) n cap, .bool false, .int .i64 (PE : Nat)] 53) = z := ⟨_, rfl⟩;obtain ⟨rn, hrn⟩ : ∃ z, w8.heap.size = z := ⟨_, rfl⟩;rw [hw9] at hna HSL9 HM9 HZ9;rw [hrn] at hna;have HNA := hd_ hna;clear hba hna HM8 HZ8 hsl8 hob8;go_upto_region 19 with (fail)
 clear hw9 hrn;obtain ⟨_, f0, f1, f2, _⟩ := st_cells HM9.out.head;have d0 := (cr_ w9 0 HNA.out (Value.slice (some ⟨bb, bo, none⟩) n cap) rfl);have d1 := (cr_ w9 1 HNA.out (Value.bool false) rfl);have d2' := (cr_ w9 2 HNA.out (Value.int .i64 PE) rfl);have HM10 : Hid (Mx b1 g w (setRd w9 g bb bo n cap PE) bb bo n cap PE ao oc most out) := hd_ (HM9.out.rd PE);have HZ10 : Hid ((setRd w9 g bb bo n cap PE).heap[g']? = _) := hd_ (grown_block (st_setRd HM9.out.head PE).2 HZ9.out (fun e => HGG.out.2.2 (Option.some.inj e).symm));have HSL10 : Hid (Sl .u8 (setRd w9 g bb bo n cap PE) ba d2.length bc d2) := hd_ (by
  have h1 := World.ownsRow.kept HSL9.out.1 (st_setRd HM9.out.head PE).2 (row_apart HSL9.out.1 HM9.out.head (by decide));obtain ⟨a3, c3, e3, hsl⟩ := own_sl8 h1 HSL9.out.2;injection e3 with e1 e2 e3
  subst e1 e3;exact hsl)
 go_upto_region 20 with (fail)
 clear f0 f1 f2 d0 d1 d2' HM9 HZ9 HSL9 HNA;unfold setRd at HM10 HZ10 HSL10;generalize ((w9.setCell ⟨g, 0, none⟩ (.slice (some ⟨bb, bo, none⟩) n cap)).setCell ⟨g, 1, none⟩ (.bool false)).setCell ⟨g, 2, none⟩ (.int .i64 (PE : Nat)) = w10 at *;have c3 := (st_cells HM10.out.head).1.2.2.2.1;have HBD : Hid (out.length + d2.length <= 140737488355328) := hd_ (by rw [HD2.out]; omega);go_upto_region 21 with (at_builtin; go_must (refine wpList_of_append rfl (.tmp 61) (.tmp 62) 22 22 rfl (run_append_sl _ _ b1 _ _ out HM10.out.row ba d2.length bc d2 HSL10.out HBD.out HM10.out.hw2) ?_; rintro v' w' ha; obtain ⟨ax, cx, rfl, _, _, _⟩ := own_slice' ha.1; have HPU := hd_ (HM10.out.push (e := d2) ha); have f1 := (st_cells HPU.out.1).2.2.2.2; have d1 := (st_cells HPU.out.1).1.2.2.2.1; have HZ11 := hd_ (grown_block (grownBy_setCell3 _ g 3 (Value.slice ax (out.length + d2.length) cx)) (HPU.out.2.1.cells HZ10.out (by decide)) (fun e => HGG.out.2.2 (Option.some.inj e).symm)); have HM12 := hd_ HPU.out.2.2; clear ha))
 clear d1 f1 c3 HPU;generalize w'.setCell ⟨g, 3, none⟩ (Value.slice ax (out.length + d2.length) cx) = w11 at *;obtain ⟨o, ho⟩ : ∃ z, out ++ d2 = z := ⟨_, rfl⟩;rw [ho] at HM12;have HOE := hd_ ho;clear ho;go_wp2_with (first
  | (with_reducible refine wpList_load_row rfl 55 _ rfl g rfl 55 _ (0, 0) _ HM12.out.head Tryz.underlying55 rfl (stSize _ _ _ _ _ _ _ _ _) ?_)
  | (with_reducible refine wpList_store_row rfl 55 _ _ rfl g' _ rfl rfl 55 _ HZ11.out (stSize bb bo n cap PE ax o.length cx most) (stSz0 bb bo n cap PE ax o.length cx most) (stOne _ _ _ _ _ _ _ _ _) ?_))
 refine bodyPost_ret (results_cell_row (p := 2) (ty := 55) rfl _ _ g' 55 _ (0, 0) _ rfl (setRow_heap _ _ _ _ _ _ HZ11.out) Tryz.underlying55 rfl (stSize bb bo n cap PE ax o.length cx most)) rfl ?_;rw [HPE.out, HDE.out, HOE.out];exact ⟨ax, cx, rfl, row_setRow HM12.out.row HZ11.out (by decide) _, HM12.out.of.own (grownBy_setRow _ _ _) HGG.out.2.1 HM12.out.hw⟩
end Go.Proofs.YthpckmcgbmfmcaaGreatDoor
