/- Texts of this claim, joined. -/
import Derived.Test.YthpckmcgbmfmcaaGreatDoorM34
set_option maxRecDepth 100000
set_option maxHeartbeats 12800000
namespace Go.Proofs.YthpckmcgbmfmcaaGreatDoor
open Go.RowKit Go.Sort
theorem refLeft_any (a : Option Addr) (n cap k : Nat) (hi : Bool) (w : World) (hn : n <= 137438953472) (hk : k <= 8 * n) :
  Calls Tryz.prog 117 #[.agg #[.slice a n cap, .bool hi, .int .i64 k]] w fun e w' => e = .returned (.int .i64 (8 * n - k : Nat)) /\ Below w.heap.size w w' := by
 have e1 : IntKind.i64.wrap (8 * (n : Int)) = ((8 * n : Nat) : Int) := i64o (by omega) (by omega);obtain ⟨m, hm⟩ : ∃ m, 8 * n = m := ⟨_, rfl⟩;rw [hm] at e1 hk ⊢;have e2 : IntKind.i64.wrap ((m : Int) - (k : Int)) = ((m - k : Nat) : Int) := i64o (by omega) (by omega);obtain ⟨z, hz⟩ : ∃ z, m - k = z := ⟨_, rfl⟩;rw [hz] at e2 ⊢;have q0 := heap_alloc_new w (.cells #[.slice a n cap, .bool hi, .int .i64 k] 53 (0, 0));have hb := (Below.refl w.heap.size w).alloc (Nat.le_refl _) (.cells #[.slice a n cap, .bool hi, .int .i64 k] 53 (0, 0));have c0 := (cr_ _ 0 q0 (Value.slice a n cap) rfl);have c2 := (cr_ _ 2 q0 (Value.int .i64 k) rfl);have HB := hd_ hb;clear hm hz hk hn q0 hb;go_enter Tryz.func117, Tryz.ntmps117
 go_wp2_with fail
 go_ret
 exact ⟨rfl, HB.out⟩
theorem refBit_any (bb bo n cap : Nat) (L : List Bool) (i : Nat) (w : World) (h : Sl .u8 w (some ⟨bb, bo, none⟩) n cap (bt.bytes false L)) (hi : i < 8 * n) (hn : n <= 137438953472) :
  Calls Tryz.prog 118 #[.slice (some ⟨bb, bo, none⟩) n cap, .bool false, .int .i64 i] w fun e w' => e = .returned (.int .u32 ((if L.getD i false then 1 else 0 : Nat) : Int)) /\ w = w' := by
 have hl := h.len;rw [bt.bytes_length] at hl;obtain ⟨b', off', e, hc⟩ := h.cells (by omega);obtain ⟨rfl, rfl⟩ : bb = b' /\ bo = off' := by simpa using e
 have c0 := hc (i / 8) (by omega);rw [bt.bytes_getD false L (by omega)] at c0;have hbit := bt.bit_of false L i;have hpl : bt.place false i = i % 8 := rfl;rw [hpl, Nat.shiftRight_eq_div_pow] at hbit;have hblt := bt.byteOf_lt false L (i / 8);obtain ⟨y, hy⟩ : ∃ y, bt.byteOf false L (i / 8) = y := ⟨_, rfl⟩;rw [hy] at c0 hbit hblt;rw [<- hbit];have e1 : Int.tdiv (i : Int) 8 = ((i / 8 : Nat) : Int) := by rw [Int.tdiv_eq_ediv_of_nonneg (by omega)]; rfl
 have e2 : Int.tmod (i : Int) 8 = ((i % 8 : Nat) : Int) := by rw [Int.tmod_eq_emod_of_nonneg (by omega)]; rfl
 have hm8 : i % 8 < 8 := Nat.mod_lt _ (by decide);have hi8 : i / 8 < n := by omega
 obtain ⟨q, hq⟩ : ∃ q, i / 8 = q := ⟨_, rfl⟩;obtain ⟨m, hm⟩ : ∃ m, i % 8 = m := ⟨_, rfl⟩;rw [hq] at c0 e1 hi8;rw [hm] at e2 hm8 ⊢;have e3 : IntKind.i64.wrap (q : Int) = (q : Int) := i64i (by omega);have e3b : IntKind.i64.wrap (m : Int) = (m : Int) := i64i (by omega);have e4 : IntKind.u64.wrap (m : Int) = (m : Int) := by rw [IntKind.wrap_u64]; omega
 have e5 : IntKind.u32.wrap (y : Int) = (y : Int) := by rw [IntKind.wrap_u32]; omega
 have e6 : (y : Int) / 2 ^ m = ((y / 2 ^ m : Nat) : Int) := by simp
 have hyl : y / 2 ^ m <= y := Nat.div_le_self _ _;obtain ⟨z, hz⟩ : ∃ z, y / 2 ^ m = z := ⟨_, rfl⟩;rw [hz] at e6 hyl ⊢;have e7 : IntKind.u32.wrap (z : Int) = (z : Int) := by rw [IntKind.wrap_u32]; omega
 have e8 : Int.tmod (z : Int) 2 = ((z % 2 : Nat) : Int) := by rw [Int.tmod_eq_emod_of_nonneg (by omega)]; rfl
 obtain ⟨u, hu⟩ : ∃ u, z % 2 = u := ⟨_, rfl⟩;have hu2 : u < 2 := by rw [<- hu]; exact Nat.mod_lt _ (by decide)
 rw [hu] at e8 ⊢;have e9 : IntKind.u32.wrap (u : Int) = (u : Int) := by rw [IntKind.wrap_u32]; omega
 have hqn : (q : Int) < (n : Int) := by omega
 clear hbit hq hm hz hu hy hpl hc hl h hblt hyl;go_enter Tryz.func118, Tryz.ntmps118
 go_wp2_with fail
 go_ret
 exact ⟨rfl, rfl⟩
def rRow (a : Option Addr) (n cap : Nat) (hi : Bool) (k : Nat) : Array Value := #[.slice a n cap, .bool hi, .int .i64 (k : Nat)]
theorem rSize (a : Option Addr) (n cap : Nat) (hi : Bool) (k : Nat) : (Tryz.prog.info? 53).map (·.size) = some (rRow a n cap hi k).size := by
 show (Tryz.prog.info? 53).map (·.size) = some 3
 kernel_rfl
theorem rOne (a : Option Addr) (n cap : Nat) (hi : Bool) (k : Nat) : (rRow a n cap hi k).all (·.oneCell') = true := by simp [rRow, Value.oneCell']
theorem rSz (a : Option Addr) (n cap : Nat) (hi : Bool) (k : Nat) (a' : Option Addr) (n' cap' : Nat) (hi' : Bool) (v : Value) : (#[.slice a' n' cap', .bool hi', v] : Array Value).size = (rRow a n cap hi k).size := rfl
theorem refAlign_any (a : Option Addr) (n cap k : Nat) (hi : Bool) (w : World) (hk : k <= 1099511627776) :
  Calls Tryz.prog 69 #[.agg #[.slice a n cap, .bool hi, .int .i64 k]] w fun e w' => e = .returned (.agg #[.slice a n cap, .bool hi, .int .i64 (8 * ((k + 7) / 8) : Nat)]) /\ Below w.heap.size w w' := by
 obtain ⟨b, hb⟩ : ∃ b, (k + 7) / 8 = b := ⟨_, rfl⟩;have e1 : IntKind.i64.wrap ((k : Int) + 7) = ((k + 7 : Nat) : Int) := i64o (by omega) (by omega);have e2 : Int.tdiv ((k + 7 : Nat) : Int) 8 = (b : Int) := by rw [Int.tdiv_eq_ediv_of_nonneg (by omega)]; omega
 have e3 : IntKind.i64.wrap (b : Int) = (b : Int) := i64i (by omega);have e4 : IntKind.i64.wrap ((b : Int) * 8) = ((8 * b : Nat) : Int) := i64o (by omega) (by omega);rw [hb];obtain ⟨k7, hk7⟩ : ∃ x, k + 7 = x := ⟨_, rfl⟩;rw [hk7] at e1 e2;obtain ⟨b8, hb8⟩ : ∃ x, 8 * b = x := ⟨_, rfl⟩;rw [hb8] at e4 ⊢;clear hb hk7 hb8 hk;have B0 := ((Below.refl w.heap.size w).alloc (Nat.le_refl _) (.cells #[.slice a n cap, .bool hi, .int .i64 k] 53)).alloc (by simp) (.cells #[.slice none 0 0, .bool false, .int .i64 0] 53);obtain ⟨q0, q1⟩ := heap2 w (.cells #[.slice a n cap, .bool hi, .int .i64 k] 53) (.cells #[.slice none 0 0, .bool false, .int .i64 0] 53);have HB0 := hd_ B0;have Q0 := hd_ q0;have Q1 := hd_ q1;clear B0 q0 q1;go_enter Tryz.func69, Tryz.ntmps69
 go_upto_region 1 with (fail)
 obtain ⟨g, hg⟩ : ∃ g, w.heap.size = g := ⟨_, rfl⟩;have HG : Hid (w.heap.size <= g) := hd_ (Nat.le_of_eq hg);generalize (w.alloc (Obj.cells #[.slice a n cap, .bool hi, .int .i64 k] 53)).alloc (Obj.cells #[.slice none 0 0, .bool false, .int .i64 0] 53) = w1 at *;rw [hg] at Q0 Q1 ⊢;have c2 := (cr_ w1 2 Q0.out (Value.int .i64 k) rfl);have f2 := frozen_of_row w1 _ 2 _ _ Q0.out;have R0 : Hid ((w1.setCell ⟨g, 2, none⟩ (.int .i64 (b8 : Nat))).heap[g]? = some (.cells (rRow a n cap hi b8) 53 (0, 0))) := hd_ (by rw [heap_setCell_same _ _ _ _ _ _ Q0.out]; rfl);have R1 : Hid ((w1.setCell ⟨g, 2, none⟩ (.int .i64 (b8 : Nat))).heap[g + 1]? = some (.cells #[.slice none 0 0, .bool false, .int .i64 0] 53 (0, 0))) := hd_ (grown_block (grownBy_setCell3 _ _ _ _) Q1.out (by intro e; have := Option.some.inj e; omega));have HB1 : Hid (Below w.heap.size w (w1.setCell ⟨g, 2, none⟩ (.int .i64 (b8 : Nat)))) := hd_ (HB0.out.setCell (p := ⟨g, 2, none⟩) HG.out _);clear hg;go_upto_region 2 with (fail)
 clear c2 f2;generalize w1.setCell ⟨g, 2, none⟩ (.int .i64 (b8 : Nat)) = w2 at *;go_wp2_with (first
  | (with_reducible refine wpList_load_row rfl 53 _ rfl g rfl 53 (rRow a n cap hi b8) (0, 0) _ R0.out Tryz.underlying53 rfl (rSize _ _ _ _ _) ?_)
  | (with_reducible refine wpList_store_row rfl 53 _ _ rfl (g + 1) _ rfl rfl 53 _ R1.out (rSize a n cap hi b8) (rSz _ _ _ _ _ _ _ _ _ _) (rOne _ _ _ _ _) ?_))
 go_wp2_with fail
 refine bodyPost_ret (results_cell_row (p := 2) (ty := 53) rfl _ _ (g + 1) 53 _ (0, 0) _ rfl (setRow_heap _ _ _ _ _ _ R1.out) Tryz.underlying53 rfl (rSize a n cap hi b8)) rfl ?_;exact ⟨rfl, below_setRow HB1.out (by have := HG.out; omega) _⟩
theorem results_cell_tmp2 {P : Program} {fn : Func} {p q q2 : Tmp} {ty : TypeId} (h : fn.results = #[.cell p ty, .tmp q, .tmp q2]) (tmps : Array Value) (w : World) (g : Nat) (t : TypeId) (cs : Array Value) (fr : Nat × Nat) (d : TypeDesc) (v v2 : Value)
  (hp : tmps.getD p undef = .pointer (some ⟨g, 0, none⟩)) (hq : tmps.getD q undef = v) (hq2 : tmps.getD q2 undef = v2) (hg : w.heap[g]? = some (.cells cs t fr))
  (hu : P.underlying ty = some d) (hd : (match d with | .struct _ | .array _ _ => true | _ => false) = true) (hi : (P.info? ty).map (·.size) = some cs.size) :
  (results fn tmps).run P w = .ok (.tuple #[.agg cs, v, v2]) w := by
 have hp' : tmps[p]?.getD undef = .pointer (some ⟨g, 0, none⟩) := by simpa using hp
 have hq' : tmps[q]?.getD undef = v := by simpa using hq
 have hq2' : tmps[q2]?.getD undef = v2 := by simpa using hq2
 simp [results, h, hp', hq', hq2', asAddr, run_loadVar_row w g t ty cs fr d hg hu hd hi]
theorem refTake_any (bb bo n cap P : Nat) (L : List Bool) (w : World) (h : Sl .u8 w (some ⟨bb, bo, none⟩) n cap (bt.bytes false L)) (m : Nat) (hm : m <= 32) (hP : P + m <= 8 * n) (hn : n <= 137438953472) :
  Calls Tryz.prog 68 #[.agg #[.slice (some ⟨bb, bo, none⟩) n cap, .bool false, .int .i64 P], .int .i64 m] w fun e w' => e = .returned (.tuple #[.agg #[.slice (some ⟨bb, bo, none⟩) n cap, .bool false, .int .i64 (P + m : Nat)], .int .u32 (bt.valTo false L P m : Nat), .int .i64 0]) /\ Below w.heap.size w w' := by
 have HS := hd_ h;have KL := hd_ (fun w => refLeft_any (some ⟨bb, bo, none⟩) n cap P false w hn (by omega));have hml : ¬ ((8 * n - P : Nat) : Int) < (m : Int) := by omega
 have hml2 : ¬ (8 * n - P : Nat) < m := by omega
 obtain ⟨z, hz⟩ : ∃ z, 8 * n - P = z := ⟨_, rfl⟩;rw [hz] at KL hml hml2;have hm32 : ¬ 32 < (m : Int) := by omega
 have hm32b : ¬ 32 < m := by omega
 have B0 := ((Below.refl w.heap.size w).alloc (Nat.le_refl _) (.cells #[.slice (some ⟨bb, bo, none⟩) n cap, .bool false, .int .i64 P] 53)).alloc (by simp) (.cells #[.slice none 0 0, .bool false, .int .i64 0] 53);obtain ⟨q0, q1⟩ := heap2 w (.cells #[.slice (some ⟨bb, bo, none⟩) n cap, .bool false, .int .i64 P] 53) (.cells #[.slice none 0 0, .bool false, .int .i64 0] 53);have HB0 := hd_ B0;have Q0 := hd_ q0;have Q1 := hd_ q1;clear B0 q0 q1 h hz;go_enter Tryz.func68, Tryz.ntmps68
 go_upto_region 1 with (fail)
 obtain ⟨g, hg⟩ : ∃ g, w.heap.size = g := ⟨_, rfl⟩;have HG : Hid (w.heap.size <= g) := hd_ (Nat.le_of_eq hg);generalize (w.alloc (Obj.cells #[.slice (some ⟨bb, bo, none⟩) n cap, .bool false, .int .i64 P] 53)).alloc (Obj.cells #[.slice none 0 0, .bool false, .int .i64 0] 53) = w1 at *;rw [hg] at Q0 Q1 ⊢;clear hg;have c0 := (cr_ w1 0 Q0.out (Value.slice (some ⟨bb, bo, none⟩) n cap) rfl);have c1 := (cr_ w1 1 Q0.out (Value.bool false) rfl);have c2 := (cr_ w1 2 Q0.out (Value.int .i64 P) rfl);go_wp2_with fail
 refine (KL.out _).mono ?_;rintro e w2 ⟨rfl, hb2⟩;have R0 := hd_ ((hb2.block _ (block_lt Q0.out)).trans Q0.out);have R1 := hd_ ((hb2.block _ (block_lt Q1.out)).trans Q1.out);have HB2 := hd_ (HB0.out.trans (hb2.mono HB0.out.size));clear hb2 KL Q0 Q1 HB0 c0 c1 c2;go_wp2_with fail
 go_loopg [7, 8] m (fun gk s7 s8 wr => ∃ i : Nat, i <= m /\ gk = m - i /\ s7 = .int .u32 (bt.valTo false L P i : Nat) /\ s8 = .int .i64 (i : Nat) /\ wr = w2)
 case atStart => exact ⟨0, Nat.zero_le _, rfl, rfl, by go_num, rfl⟩
 case round =>
  obtain ⟨i, hi, hgk, rfl, rfl, rfl⟩ := hrel;have Hg := hd_ hgk;clear hgk;have c0 := (cr_ wr 0 R0.out (Value.slice (some ⟨bb, bo, none⟩) n cap) rfl);have c1 := (cr_ wr 1 R0.out (Value.bool false) rfl);have c2 := (cr_ wr 2 R0.out (Value.int .i64 P) rfl);by_cases hlt : i < m
  ·have KB := hd_ (refBit_any bb bo n cap L (P + i) wr (HS.out.below HB2.out) (by omega) hn)
   have hv := bt.valTo_lt false L P (i + 1);have hvn : bt.valTo false L P (i + 1) = bt.valTo false L P i + (if L.getD (P + i) false then 1 else 0) * 2 ^ i := by
    rw [bt.valTo];cases L.getD (P + i) false <;> simp
   have hp : 2 ^ (i + 1) <= 2 ^ 32 := Nat.pow_le_pow_right (by decide) (by omega);have HVN := hd_ hvn;have hv32 : bt.valTo false L P (i + 1) < 4294967296 := Nat.lt_of_lt_of_le hv hp;rw [hvn] at hv32;obtain ⟨bi, hbi⟩ : ∃ z, (if L.getD (P + i) false then 1 else 0) = z := ⟨_, rfl⟩;rw [hbi] at KB hv32 HVN;obtain ⟨v, hve⟩ : ∃ z, bt.valTo false L P i = z := ⟨_, rfl⟩;rw [hve] at hv32 HVN ⊢;have e1 : (bi : Int) * 2 ^ i = ((bi * 2 ^ i : Nat) : Int) := (by simp);obtain ⟨y, hy⟩ : ∃ z, bi * 2 ^ i = z := ⟨_, rfl⟩;rw [hy] at e1 hv32 HVN;have e2 : IntKind.u32.wrap (y : Int) = (y : Int) := (by rw [IntKind.wrap_u32]; omega);have e3 : IntKind.u32.wrap ((v : Int) + (y : Int)) = ((v + y : Nat) : Int) := (by rw [IntKind.wrap_u32]; omega);obtain ⟨s, hs⟩ : ∃ z, v + y = z := ⟨_, rfl⟩;rw [hs] at e3 HVN;have e4 : IntKind.u64.wrap (i : Int) = (i : Int) := (by rw [IntKind.wrap_u64]; omega);have e5 : IntKind.i64.wrap ((P : Int) + (i : Int)) = ((P + i : Nat) : Int) := i64o (by omega) (by omega);obtain ⟨t, ht⟩ : ∃ z, P + i = z := ⟨_, rfl⟩;rw [ht] at e5 KB;have hmin : min i 32 = i := Nat.min_eq_left (by omega);clear hv hvn hp hbi hve hy hs ht;go_wp2_with fail
   refine KB.out.mono ?_;rintro e w3 ⟨rfl, rfl⟩;go_wp2_with fail
   go_roundg (m - (i + 1))
   case measure => have := Hg.out; omega
   case rel => exact ⟨i + 1, by omega, rfl, by rw [HVN.out], by go_num, rfl⟩
  ·obtain rfl : i = m := by omega
   obtain ⟨v, hve⟩ : ∃ z, bt.valTo false L P i = z := ⟨_, rfl⟩;have e5 : IntKind.i64.wrap ((P : Int) + (i : Int)) = ((P + i : Nat) : Int) := i64o (by omega) (by omega);obtain ⟨t, ht⟩ : ∃ z, P + i = z := ⟨_, rfl⟩;rw [ht] at e5;have HT := hd_ ht;have HV := hd_ hve;rw [hve];have f2 := frozen_of_row wr _ 2 _ _ R0.out;have S0 : Hid ((wr.setCell ⟨g, 2, none⟩ (.int .i64 (t : Nat))).heap[g]? = some (.cells (rRow (some ⟨bb, bo, none⟩) n cap false t) 53 (0, 0))) := hd_ (by rw [heap_setCell_same _ _ _ _ _ _ R0.out]; rfl);have S1 : Hid ((wr.setCell ⟨g, 2, none⟩ (.int .i64 (t : Nat))).heap[g + 1]? = some (.cells #[.slice none 0 0, .bool false, .int .i64 0] 53 (0, 0))) := hd_ (grown_block (grownBy_setCell3 _ _ _ _) R1.out (by intro e; have := Option.some.inj e; omega));have HB3 : Hid (Below w.heap.size w (wr.setCell ⟨g, 2, none⟩ (.int .i64 (t : Nat)))) := hd_ (HB2.out.setCell (p := ⟨g, 2, none⟩) HG.out _);clear ht hve;go_upto_region 14 with (fail)
   clear c0 c1 c2 f2;generalize wr.setCell ⟨g, 2, none⟩ (.int .i64 (t : Nat)) = w5 at *;go_wp2_with (first
    | (with_reducible refine wpList_load_row rfl 53 _ rfl g rfl 53 (rRow (some ⟨bb, bo, none⟩) n cap false t) (0, 0) _ S0.out Tryz.underlying53 rfl (rSize _ _ _ _ _) ?_)
    | (with_reducible refine wpList_store_row rfl 53 _ _ rfl (g + 1) _ rfl rfl 53 _ S1.out (rSize (some ⟨bb, bo, none⟩) n cap false t) (rSz _ _ _ _ _ _ _ _ _ _) (rOne _ _ _ _ _) ?_))
   refine bodyPost_ret (results_cell_tmp2 (p := 4) (q := 5) (q2 := 6) (ty := 53) rfl _ _ (g + 1) 53 _ (0, 0) _ _ _ rfl rfl rfl (setRow_heap _ _ _ _ _ _ S1.out) Tryz.underlying53 rfl (rSize (some ⟨bb, bo, none⟩) n cap false t)) rfl ?_;rw [HT.out, HV.out];exact ⟨rfl, below_setRow HB3.out (by have := HG.out; omega) _⟩
structure RTab (w : World) (ls : List Nat) (of : Nat -> Value) : Prop where
 row : ∀ k, 1 <= k -> k <= 16 -> ∃ a c, of k = .slice a (ls.count k) c /\ Sl .i64 w a (ls.count k) c (nats (pf.idx ls k))
theorem RTab.below {w w' : World} {ls : List Nat} {of : Nat -> Value} (h : RTab w ls of) (hb : Below w.heap.size w w') : RTab w' ls of := ⟨fun k h1 h2 => by
 obtain ⟨a, c, e, h3⟩ := h.row k h1 h2;exact ⟨a, c, e, h3.below hb⟩⟩
namespace pf
theorem under {ls : List Nat} {s : Nat} (n : Nat) (h : s < ls.length) :
  (code ls s / 2 ^ (ls.getD s 0 - n)) * 2 ^ (ls.getD s 0 - n) + 1 <= first ls (ls.getD s 0) + ls.count (ls.getD s 0) /\ first ls (ls.getD s 0) + 1 <= (code ls s / 2 ^ (ls.getD s 0 - n)) * 2 ^ (ls.getD s 0 - n) + 2 ^ (ls.getD s 0 - n) := by
 have hr := rank_lt h;have hd := Nat.div_add_mod (code ls s) (2 ^ (ls.getD s 0 - n));have hm := Nat.mod_lt (code ls s) (Nat.two_pow_pos (ls.getD s 0 - n));have hc : code ls s = first ls (ls.getD s 0) + rank ls s := rfl
 rw [Nat.mul_comm] at hd;omega
end pf
theorem rmore_any (ls : List Nat) (of : Nat -> Value) (any : Bool) (s v n : Nat) (w : World) (hok : pf.Ok ls) (hf : RTab w ls of) (hs : s < ls.length) (hls : ls.length <= 4096) (h1 : 1 <= ls.getD s 0) (hn1 : 1 <= n) (hn : n < ls.getD s 0) (hv : v = pf.code ls s / 2 ^ (ls.getD s 0 - n)) :
  Calls Tryz.prog 146 #[.agg (gRow (rt.F (rt.fM ls 16) of any) 37), .int .i64 (v : Nat), .int .i64 (n : Nat)] w fun e w' => e = .returned (.bool true) /\ Below w.heap.size w w' := by
 have hL16 := hok.le _ (pf.getD_mem hs);have hun := pf.under n hs;rw [<- hv] at hun;have hcl := pf.code_lt hok hs h1;have hvn : v < 2 ^ n := by
  rw [hv, Nat.div_lt_iff_lt_mul (Nat.two_pow_pos _), <- Nat.pow_add, Nat.add_sub_cancel' (Nat.le_of_lt hn)];exact hcl
 have hcnt := pf.rank_lt hs;have HRL := hd_ hcnt;obtain ⟨L, hL⟩ : ∃ z, ls.getD s 0 = z := ⟨_, rfl⟩;rw [hL] at hL16 hun h1 hn HRL;have HUN := hd_ hun;have HF := hd_ hf;have HVN := hd_ hvn;have HOK := hd_ hok;have HLS := hd_ hls;have B0 := (Below.refl w.heap.size w).alloc (Nat.le_refl _) (.cells (gRow (rt.F (rt.fM ls 16) of any) 37) 66);have q0 := heap_alloc_new w (.cells (gRow (rt.F (rt.fM ls 16) of any) 37) 66 (0, 0));obtain ⟨w2, hw2⟩ : ∃ z, w.alloc (.cells (gRow (rt.F (rt.fM ls 16) of any) 37) 66) = z := ⟨_, rfl⟩;obtain ⟨g, hg⟩ : ∃ z, w.heap.size = z := ⟨_, rfl⟩;have wn : IntKind.i64.wrap ((n : Int) + 1) = ((n + 1 : Nat) : Int) := i64o (by omega) (by omega);clear hcl hvn hun hcnt hok hf hls hv hs hL;go_enter Tryz.func146, Tryz.ntmps146
 go_upto_region 2 with (fail)
 rw [hw2] at B0 q0;rw [hg] at q0;have HB := hd_ B0;have HQ := hd_ q0;clear hw2 hg B0 q0 wn;go_wp2_with fail
 go_loopg [7] (L - n) (fun gk s7 wr => ∃ k : Nat, n < k /\ k <= L /\ gk = L + 1 - k /\ s7 = .int .i64 (k : Nat) /\ Below w2.heap.size w2 wr)
 case atStart => exact ⟨n + 1, by omega, by omega, by omega, by go_num, Below.refl _ _⟩
 case round =>
  obtain ⟨k, hnk, hkL, hgk, rfl, hbw⟩ := hrel;have Hg := hd_ hgk;have HBW := hd_ hbw;have hqr := (hbw.block _ (block_lt HQ.out)).trans HQ.out;clear hgk hbw;obtain ⟨ua, uc, euv, _⟩ := HF.out.row k (by omega) (by omega);have c1 := gRow_cell (j := k) hqr (by omega);have c2 := gRow_cell (j := 18 + k) hqr (by omega);have e1 : rt.F (rt.fM ls 16) of any k = .int .i64 (pf.first ls k : Nat) := by unfold rt.F rt.fM; rw [if_pos (by omega), if_pos (by omega)]
  have e2 : rt.F (rt.fM ls 16) of any (18 + k) = .slice ua (ls.count k) uc := by unfold rt.F; rw [if_neg (by omega), if_pos (by omega), Nat.add_sub_cancel_left]; exact euv
  rw [e1] at c1;rw [e2] at c2;have hfit := pf.fits HOK.out (n := k) (by omega) (by omega);have hp16 : 2 ^ k <= 2 ^ 16 := Nat.pow_le_pow_right (by decide) (by omega);obtain ⟨d, hd⟩ : ∃ z, k - n = z := ⟨_, rfl⟩;have hlo : v * 2 ^ d < 2 ^ k := by
   have h3 : (v + 1) * 2 ^ d <= 2 ^ n * 2 ^ d := Nat.mul_le_mul_right _ HVN.out;rw [<- Nat.pow_add, show n + d = k by omega, Nat.add_mul] at h3;have := Nat.two_pow_pos d;omega
  have hd16 : 2 ^ d <= 2 ^ 16 := Nat.pow_le_pow_right (by decide) (by omega);have HDK : Hid (k = L -> L - n = d) := hd_ (by omega);have hdi : (k : Int) - (n : Int) = (d : Int) := by omega
  obtain ⟨p, hp⟩ : ∃ z, 2 ^ d = z := ⟨_, rfl⟩;have HPD := hd_ hp;have hpi : (2 : Int) ^ d = (p : Int) := by rw [<- hp]; simp
  rw [hp] at hlo hd16;obtain ⟨lo, hloe⟩ : ∃ z, v * p = z := ⟨_, rfl⟩;have HLO := hd_ hloe;have hvp : (v : Int) * (p : Int) = (lo : Int) := by rw [<- hloe]; simp
  rw [hloe] at hlo;obtain ⟨f1, hf1⟩ : ∃ z, pf.first ls k = z := ⟨_, rfl⟩;obtain ⟨cn, hcn⟩ : ∃ z, ls.count k = z := ⟨_, rfl⟩;rw [hf1] at c1 hfit;rw [hcn] at c2 hfit;have HF1 := hd_ hf1;have HCN := hd_ hcn;have hp1 : 1 <= p := by rw [<- hp]; exact Nat.two_pow_pos d
  have t1 : IntKind.i64.wrap ((k : Int) - (n : Int)) = (d : Int) := by rw [hdi]; exact i64i (by omega)
  have t2 : IntKind.i64.wrap ((v : Int) * 2 ^ d) = (lo : Int) := by rw [hpi, hvp]; exact i64i (by omega)
  have t3 : IntKind.i64.wrap (2 ^ d) = (p : Int) := by rw [hpi]; exact i64i (by omega)
  have t4 : IntKind.i64.wrap ((lo : Int) + (p : Int)) = ((lo + p : Nat) : Int) := i64o (by omega) (by omega);obtain ⟨lp, hlp⟩ : ∃ z, lo + p = z := ⟨_, rfl⟩;rw [hlp] at t4;obtain ⟨hi', hhi⟩ : ∃ z, lp - 1 = z := ⟨_, rfl⟩;have t5 : IntKind.i64.wrap ((lp : Int) - 1) = (hi' : Int) := i64o (by omega) (by omega);have HHI : Hid (hi' + 1 = lo + p) := hd_ (by omega);obtain ⟨fc, hfc⟩ : ∃ z, f1 + cn = z := ⟨_, rfl⟩;have t6 : IntKind.i64.wrap ((f1 : Int) + (cn : Int)) = (fc : Int) := i64o (by omega) (by omega);have t7 : IntKind.i64.wrap ((fc : Int) - 1) = (fc : Int) - 1 := i64i (by omega);have HFC := hd_ hfc;have hk16 : (k : Int) <= 16 := by omega
  have hk18 : (k : Int) < 18 := by omega
  have hk18' : ¬ k = 18 := by omega
  have t0 : IntKind.u64.wrap (d : Int) = (d : Int) := IntWalk.u64_in _ (by omega);have tm : min d 64 = d := by omega
  clear hd hlo hd16 hdi hp hpi hloe hvp hf1 hcn hlp hhi hfc euv e1 e2 hqr hfit hp16;have hkl : k = L -> 0 < cn /\ lo + 1 <= fc /\ f1 <= hi' := fun e => by
   subst e;have h1 := HUN.out;have h2 := HRL.out;rw [HDK.out rfl, HPD.out, HLO.out, HF1.out, HCN.out] at h1;rw [HCN.out] at h2;have := HHI.out;have := HFC.out;omega
  by_cases b1 : 0 < cn
  ·have b1' : decide ((0 : Int) < (cn : Int)) = true := by simp; omega
   by_cases b2 : lo + 1 <= fc
   ·have b2' : decide ((lo : Int) <= (fc : Int) - 1) = true := by simp; omega
    by_cases b3 : f1 <= hi'
    ·have b3' : decide ((f1 : Int) <= (hi' : Int)) = true := by simp; omega
     go_upto_region 6 with (fail)
     go_quiet (fail)
     have hbq := below_drewN (Below.refl wr.heap.size wr) nq;have HBQ := hd_ (HBW.out.trans (hbq.mono HBW.out.size));clear hbq c1 c2;generalize wr.drewN nq = wv at *;go_wp2_with fail
     go_ret
     exact ⟨rfl, HB.out.trans (HBQ.out.mono HB.out.size)⟩
    ·have b3' : decide ((f1 : Int) <= (hi' : Int)) = false := by simp; omega
     have hkne : k ≠ L := fun e => b3 (hkl e).2.2
     go_upto_region 6 with (fail)
     go_quiet (fail)
     have hbq := below_drewN (Below.refl wr.heap.size wr) nq;have HBQ := hd_ (HBW.out.trans (hbq.mono HBW.out.size));clear hbq c1 c2;generalize wr.drewN nq = wv at *;go_wp2_with fail
     go_roundg (L + 1 - (k + 1))
     case measure => have := Hg.out; omega
     case rel => exact ⟨k + 1, by omega, by omega, rfl, by go_num, HBQ.out⟩
   ·have b2' : decide ((lo : Int) <= (fc : Int) - 1) = false := by simp; omega
    have hkne : k ≠ L := fun e => b2 (hkl e).2.1
    go_upto_region 6 with (fail)
    go_quiet (fail)
    have hbq := below_drewN (Below.refl wr.heap.size wr) nq;have HBQ := hd_ (HBW.out.trans (hbq.mono HBW.out.size));clear hbq c1 c2;generalize wr.drewN nq = wv at *;go_wp2_with fail
    go_roundg (L + 1 - (k + 1))
    case measure => have := Hg.out; omega
    case rel => exact ⟨k + 1, by omega, by omega, rfl, by go_num, HBQ.out⟩
  ·have b1' : decide ((0 : Int) < (cn : Int)) = false := by simp; omega
   have hkne : k ≠ L := fun e => b1 (hkl e).1
   go_upto_region 6 with (fail)
   go_quiet (fail)
   have hbq := below_drewN (Below.refl wr.heap.size wr) nq;have HBQ := hd_ (HBW.out.trans (hbq.mono HBW.out.size));clear hbq c1 c2;generalize wr.drewN nq = wv at *;go_wp2_with fail
   go_roundg (L + 1 - (k + 1))
   case measure => have := Hg.out; omega
   case rel => exact ⟨k + 1, by omega, by omega, rfl, by go_num, HBQ.out⟩
end Go.Proofs.YthpckmcgbmfmcaaGreatDoor
