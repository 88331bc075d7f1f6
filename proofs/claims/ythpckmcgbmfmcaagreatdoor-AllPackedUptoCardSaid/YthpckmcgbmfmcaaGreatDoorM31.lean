/- Texts of this claim, joined. -/
import Derived.Test.YthpckmcgbmfmcaaGreatDoorM22
set_option maxRecDepth 100000
set_option maxHeartbeats 12800000
namespace Go.Proofs.YthpckmcgbmfmcaaGreatDoor
open Go.RowKit Go.Sort
section
variable {w : World} {g : Nat} {up : Bool} {d : List Int} {k sb n c : Nat}
theorem bt.Rr.at' (h : bt.Rr w g up d k sb n c) (k' : Nat) : bt.Rr (w.setCell ⟨g, 1, none⟩ (.int .i64 k')) g up d k' sb n c /\ w.grownBy (w.setCell ⟨g, 1, none⟩ (.int .i64 k')) (some g) := by
 have hg := grownBy_setCell3 w g 1 (.int .i64 k');refine ⟨⟨?_, h.data.kept hg (by intro e; have := Option.some.inj e; have := h.apart; omega), h.apart, h.small⟩, hg⟩;rw [heap_setCell_same _ _ _ _ _ _ h.head];rfl
theorem border_any (h : bt.Rr w g up d k sb n c) (hk : k <= 1099511627776) :
  Calls Tryz.prog 143 #[.pointer (some ⟨g, 0, none⟩)] w fun e w' => e = .returned (.int .i64 ((k + 7) / 8 : Nat)) /\ w = w' := by
 have c1 := (cr_ w 1 h.head (Value.int .i64 k) rfl);obtain ⟨b, hb⟩ : ∃ b, (k + 7) / 8 = b := ⟨_, rfl⟩;have e1 : IntKind.i64.wrap ((k : Int) + 7) = ((k + 7 : Nat) : Int) := i64o (by omega) (by omega);have e2 : Int.tdiv ((k + 7 : Nat) : Int) 8 = (b : Int) := by rw [Int.tdiv_eq_ediv_of_nonneg (by omega)]; omega
 have e3 : IntKind.i64.wrap (b : Int) = (b : Int) := i64i (by omega);rw [hb];obtain ⟨k7, hk7⟩ : ∃ x, k + 7 = x := ⟨_, rfl⟩;rw [hk7] at e1 e2;clear h hb hk7;go_enter Tryz.func143, Tryz.ntmps143
 go_wp2_with fail
 go_ret
 exact ⟨rfl, rfl⟩
theorem ralign_any (h : bt.Rr w g up d k sb n c) (hk : k <= 1099511627776) :
  Calls Tryz.prog 110 #[.pointer (some ⟨g, 0, none⟩)] w fun e w' => e = .returned (.tuple #[]) /\ bt.Rr w' g up d (8 * ((k + 7) / 8)) sb n c /\ w.grownBy w' (some g) := by
 have KB := hd_ (border_any h hk);have c1 := (cr_ w 1 h.head (Value.int .i64 k) rfl);have f1 := frozen_of_row w _ 1 _ _ h.head;have HP := hd_ (h.at' (8 * ((k + 7) / 8)));obtain ⟨b, hb⟩ : ∃ b, (k + 7) / 8 = b := ⟨_, rfl⟩;have e3 : IntKind.i64.wrap (8 * (b : Int)) = ((8 * b : Nat) : Int) := i64o (by omega) (by omega);rw [hb] at KB HP ⊢;obtain ⟨b8, hb8⟩ : ∃ x, 8 * b = x := ⟨_, rfl⟩;rw [hb8] at e3 HP ⊢;clear h hb hb8;go_enter Tryz.func110, Tryz.ntmps110
 go_wp2_with fail
 refine KB.out.mono ?_;rintro e w2 ⟨rfl, rfl⟩;go_wp2_with fail
 refine bodyPost_end (results_none rfl _ _ _) rfl ⟨rfl, HP.out⟩
theorem place_any (h : bt.Rr w g up d k sb n c) :
  Calls Tryz.prog 66 #[.pointer (some ⟨g, 0, none⟩)] w fun e w' => e = .returned (.int .i64 (k : Nat)) /\ w = w' := by
 have c1 := (cr_ w 1 h.head (Value.int .i64 k) rfl);clear h;go_enter Tryz.func66, Tryz.ntmps66
 go_wp2_with fail
 go_ret
 exact ⟨rfl, rfl⟩
def bt.RbPost (g : Nat) (up : Bool) (d : List Int) (k' sb n c m : Nat) (l : List Int) (w : World) (e : Ending) (w' : World) : Prop :=
 ∃ v, e = .returned (.tuple #[v, .int .i64 0]) /\ Fresh .u8 5 w.heap.size w' v m l /\ bt.Rr w' g up d k' sb n c /\ w.grownBy w' (some g)
theorem rbytes_any (h : bt.Rr w g up d k sb n c) (m : Nat) (hm : (k + 7) / 8 + m <= n) (hk : k <= 1099511627776) :
  Calls Tryz.prog 112 #[.pointer (some ⟨g, 0, none⟩), .int .i64 m] w (bt.RbPost g up d (8 * ((k + 7) / 8 + m)) sb n c m ((d.drop ((k + 7) / 8)).take m) w) := by
 have KB := hd_ (fun w' (hr : bt.Rr w' g up d k sb n c) => border_any hr hk);have hs := h.small;have HR := hd_ h;have hfit := h.data.fits;obtain ⟨b, hb⟩ : ∃ b, (k + 7) / 8 = b := ⟨_, rfl⟩;rw [hb] at KB hm ⊢;have c0 := (cr_ w 0 h.head (Value.slice (some ⟨sb, 0, none⟩) n c) rfl);clear h hb;have e1 : IntKind.i64.wrap ((n : Int) - (b : Int)) = ((n - b : Nat) : Int) := i64o (by omega) (by omega);have e2 : IntKind.i64.wrap ((b : Int) + (m : Int)) = ((b + m : Nat) : Int) := i64o (by omega) (by omega);have e3 : IntKind.i64.wrap (8 * ((b + m : Nat) : Int)) = ((8 * (b + m) : Nat) : Int) := i64o (by omega) (by omega);have hmn : ¬ ((n - b : Nat) : Int) < (m : Int) := by omega
 have hmn2 : ¬ (n - b : Nat) < m := by omega
 obtain ⟨t, ht⟩ : ∃ t, b + m = t := ⟨_, rfl⟩;obtain ⟨t8, ht8⟩ : ∃ t8, 8 * t = t8 := ⟨_, rfl⟩;obtain ⟨z, hz⟩ : ∃ z, n - b = z := ⟨_, rfl⟩;rw [ht] at e2 e3;rw [ht8] at e3;rw [hz] at e1 hmn hmn2;have HT := hd_ ht;have HT8 := hd_ ht8;have htm : b <= t /\ t <= n /\ t - b = m := by omega
 clear ht ht8 hz;go_enter Tryz.func112, Tryz.ntmps112
 go_upto_region 5 with (fail)
 have c0 := cell_regrown c0;refine wp_region_quiet_below (by kernel_rfl) (by kernel_rfl) ?_;have HZ : Hid (∀ dq os, Calls Tryz.prog 143 #[.pointer (some ⟨g, 0, none⟩)] (grow (redrawn w dq) os) fun e w'' => e = .returned (.int .i64 (b : Nat)) /\ ∃ p : Regrown, w'' = grow (redrawn w p.d) p.os) := hd_ (fun dq os => (KB.out _ (HR.out.below (below_regrown w dq os))).mono (by
  rintro e w2 ⟨rfl, rfl⟩;exact ⟨rfl, ⟨dq, os⟩, rfl⟩))
 repeat (go_big_quiet_step (exact HZ.out _ _))
 refine wpQuiet_nil ?_;intro _ hw';obtain ⟨⟨dq, osq⟩, hw''⟩ := hw';subst hw'';have hbq := below_regrown w dq osq;have HR2 := hd_ (HR.out.below hbq);have HB2 := hd_ hbq;clear c0 HZ hbq;generalize grow (redrawn w dq) osq = w2 at *;go_wp2_with fail
 refine (KB.out _ HR2.out).mono ?_;rintro e w3 ⟨rfl, rfl⟩;have f1 := frozen_of_row w2 _ 1 _ _ HR2.out.head;have c1 := (cr_ w2 1 HR2.out.head (Value.int .i64 k) rfl);go_upto_region 9 with (fail)
 have HP := hd_ (HR2.out.at' t8);clear f1 c1;generalize w2.setCell ⟨g, 1, none⟩ (.int .i64 t8) = w4 at *;have c0 := (cr_ w4 0 HP.out.1.head (Value.slice (some ⟨sb, 0, none⟩) n c) rfl);have hdd : Sl .u8 w4 (some ⟨sb, b, none⟩) m (c - b) ((d.drop b).take m) := by
  have h1 := (HP.out.1.data.drop (m := b) (by omega)).take (m := m) (by omega)
  rwa [Nat.zero_add] at h1
 have htb : b <= t := htm.1;have htn : t <= c := by omega
 have htm2 : t - b = m := htm.2.2;have HG := hd_ ((grown_some (row := some g) HB2.out).trans HP.out.2);by_cases hcb : c = b
 ·have h0 : m = 0 := by omega
  have CL := hd_ (clone_any sb 0 0 0 [] w4 ⟨rfl, Nat.zero_le _, by unfold maxLen; omega, (fun e => by cases e), (fun x hx => by cases hx), .inl rfl⟩ (by omega));have hnil : (d.drop b).take m = [] := by rw [h0, List.take_zero]
  have HN := hd_ hnil;have H0 := hd_ h0;clear hdd hnil;go_wp2_with fail
  refine CL.out.mono ?_;rintro e w5 ⟨v5, rfl, ⟨b5, c5, e5, h51, h52⟩, hb5⟩;have HF5 : Hid (Fresh .u8 5 w.heap.size w5 v5 m ((d.drop b).take m)) := hd_ (by rw [HN.out, H0.out]; exact ⟨b5, c5, e5, Nat.le_trans HG.out.size h51, World.ownsRow.mono h52 HG.out.size⟩);have HG5 := hd_ (HG.out.trans (grown_some (row := some g) hb5));have HR5 := hd_ (HP.out.1.below hb5);clear h51 h52 hb5 CL e5;go_wp2_with fail
  go_ret2
  rw [HT.out, HT8.out];exact ⟨v5, rfl, HF5.out, HR5.out, HG5.out⟩
 ·have CL := hd_ (clone_any sb b m (c - b) ((d.drop b).take m) w4 hdd (by omega))
  clear hdd;go_wp2_with fail
  refine CL.out.mono ?_;rintro e w5 ⟨v5, rfl, ⟨b5, c5, e5, h51, h52⟩, hb5⟩;have HF5 : Hid (Fresh .u8 5 w.heap.size w5 v5 m ((d.drop b).take m)) := hd_ (⟨b5, c5, e5, Nat.le_trans HG.out.size h51, World.ownsRow.mono h52 HG.out.size⟩);have HG5 := hd_ (HG.out.trans (grown_some (row := some g) hb5));have HR5 := hd_ (HP.out.1.below hb5);clear h51 h52 hb5 CL e5;go_wp2_with fail
  go_ret2
  rw [HT.out, HT8.out];exact ⟨v5, rfl, HF5.out, HR5.out, HG5.out⟩
end
def bitN (b : Bool) : Nat := if b then 1 else 0
theorem bitN_le (b : Bool) : bitN b <= 1 := by cases b <;> decide
theorem valTo_one (L : List Bool) (P : Nat) : bt.valTo false L P 1 = bitN (L.getD P false) := by
 simp only [bt.valTo, bitN];cases L.getD P false <;> simp
theorem take_bit {w : World} {g : Nat} {L : List Bool} {P sb n c : Nat} (h : bt.Rr w g false (bt.bytes false L) P sb n c) (hn : n = (L.length + 7) / 8) (hP : P < L.length) :
  Calls Tryz.prog 77 #[.pointer (some ⟨g, 0, none⟩), .int .i64 1] w fun e w' => e = .returned (.tuple #[.int .u32 (bitN (L.getD P false) : Nat), .int .i64 0]) /\ bt.Rr w' g false (bt.bytes false L) (P + 1) sb n c /\ w.grownBy w' (some g) := by
 refine (take_any h hn 1 (by omega) (by omega)).mono ?_;rintro e w2 ⟨rfl, h2, h3⟩;rw [valTo_one];exact ⟨rfl, h2, h3⟩
section
variable {base : Nat} {w : World} {g : Nat} {ls : List Nat} {tv : Value}
theorem Dec.first (h : Dec base w g ls tv) {j : Nat} (hj : j < 17) : w.cell? ⟨g, j, none⟩ = some (.int .i64 (pf.first ls j : Nat)) :=
 (gRow_cell h.head (by omega)).trans (by unfold pf.dF; rw [if_pos hj])
theorem Dec.start (h : Dec base w g ls tv) {j : Nat} (hj : j < 17) : w.cell? ⟨g, 17 + j, none⟩ = some (.int .i64 (pf.stF ls j : Nat)) :=
 (gRow_cell h.head (by omega)).trans (by unfold pf.dF; rw [if_neg (by omega), if_pos (by omega), Nat.add_sub_cancel_left])
theorem Dec.count (h : Dec base w g ls tv) {j : Nat} (hj : j < 17) (h0 : j ≠ 0) : w.cell? ⟨g, 34 + j, none⟩ = some (.int .i64 (ls.count j : Nat)) :=
 (gRow_cell h.head (by omega)).trans (by unfold pf.dF; rw [if_neg (by omega), if_neg (by omega), if_pos (by omega), Nat.add_sub_cancel_left, pf.cntF_all ls h0])
theorem Dec.table (h : Dec base w g ls tv) : w.cell? ⟨g, 51, none⟩ = some tv := (gRow_cell h.head (by decide)).trans rfl
theorem Dec.deep (h : Dec base w g ls tv) : w.cell? ⟨g, 52, none⟩ = some (.int .i64 (pf.deep ls : Nat)) := (gRow_cell h.head (by decide)).trans rfl
theorem Dec.below {w' : World} (h : Dec base w g ls tv) (hb : Below w.heap.size w w') : Dec base w' g ls tv := ⟨(hb.block _ (block_lt h.head)).trans h.head, h.tab.below hb, h.lies⟩
theorem Dec.grown {w' : World} {row : Option Nat} (h : Dec base w g ls tv) (hg : w.grownBy w' row) (h1 : row ≠ some g) (h2 : ∀ r, row = some r -> tv.ownBlock ≠ some r) : Dec base w' g ls tv := by
 refine ⟨grown_block hg h.head (fun e => h1 e.symm), World.ownsRow.kept h.tab hg ?_, h.lies⟩;cases hv : tv.ownBlock with
 | none => exact .inl rfl
 | some k => exact .inr (fun e => h2 k e.symm hv)
theorem Dec.reader {w' : World} (h : Dec base w g ls tv) {r : Nat} {rc : Array Value} (hr : w.heap[r]? = some (.cells rc 195 (0, 0))) (hg : w.grownBy w' (some r)) : Dec base w' g ls tv := by
 refine h.grown hg ?_ ?_
 ·intro e
  obtain rfl := Option.some.inj e;rw [h.head] at hr;cases hr
 ·intro q e1 e2
  obtain rfl := Option.some.inj e1;exact own_ne h.tab hr (by decide) e2.symm
end
theorem above_any (base : Nat) (w : World) (g : Nat) (ls : List Nat) (tv : Value) (h : Dec base w g ls tv) (hok : pf.Ok ls) (n : Nat) (h1 : 1 <= n) (h2 : n < pf.deep ls) :
  Calls Tryz.prog 160 #[.pointer (some ⟨g, 0, none⟩), .int .i64 n] w fun e w' => e = .returned (.int .i64 (pf.last ls / 2 ^ (pf.deep ls - n) + 1 : Nat)) /\ Below w.heap.size w w' := by
 have hd16 : pf.deep ls <= 16 := hok.le _ (pf.deep_mem (by omega));have c0 := h.deep;have c1 := h.first (j := pf.deep ls) (by omega);have c2 := h.count (j := pf.deep ls) (by omega) (by omega);have hfit := pf.fits hok (n := pf.deep ls) (by omega) hd16;have hp16 : 2 ^ pf.deep ls <= 2 ^ 16 := Nat.pow_le_pow_right (by decide) hd16;have hcpos : 0 < ls.count (pf.deep ls) := List.count_pos_iff.2 (pf.deep_mem (by omega));have hlast : pf.last ls = pf.first ls (pf.deep ls) + ls.count (pf.deep ls) - 1 := rfl;obtain ⟨d, hd⟩ : ∃ d, pf.deep ls = d := ⟨_, rfl⟩;rw [hd] at h2 hd16 c0 c1 c2 hfit hp16 hcpos hlast ⊢;obtain ⟨x, hx⟩ : ∃ x, pf.first ls d = x := ⟨_, rfl⟩;obtain ⟨y, hy⟩ : ∃ y, ls.count d = y := ⟨_, rfl⟩;rw [hx] at c1 hfit hlast;rw [hy] at c2 hfit hcpos hlast;obtain ⟨z, hz⟩ : ∃ z, pf.last ls = z := ⟨_, rfl⟩;rw [hz] at hlast ⊢;have e1 : IntKind.i64.wrap ((x : Int) + (y : Int)) = ((x + y : Nat) : Int) := i64o (by omega) (by omega);obtain ⟨t, ht⟩ : ∃ t, x + y = t := ⟨_, rfl⟩;rw [ht] at e1 hfit hlast;have e2 : IntKind.i64.wrap ((t : Int) - 1) = (z : Int) := i64o (by omega) (by omega);obtain ⟨k, hk⟩ : ∃ k, d - n = k := ⟨_, rfl⟩;have e3 : IntKind.i64.wrap ((d : Int) - (n : Int)) = (k : Int) := i64o (by omega) (by omega);rw [hk];have hd17 : (d : Int) < 17 := by omega
 have hdn : ¬ (d : Int) <= (n : Int) := by omega
 have hk16 : k <= 16 := by omega
 have hzq : z / 2 ^ k <= 65536 := Nat.le_trans (Nat.div_le_self _ _) (by omega);clear h hok hfit hp16 hcpos hlast hd hx hy hz ht hk h2;have e4 : ((z : Int) / 2 ^ k) = ((z / 2 ^ k : Nat) : Int) := by simp
 obtain ⟨q, hq⟩ : ∃ q, z / 2 ^ k = q := ⟨_, rfl⟩;rw [hq] at hzq e4 ⊢;have e5 : IntKind.i64.wrap ((q : Int) + 1) = ((q + 1 : Nat) : Int) := i64o (by omega) (by omega);clear hq;go_enter Tryz.func160, Tryz.ntmps160
 go_upto_region 1 with (fail)
 go_quiet (fail)
 have hb := below_drewN (Below.refl w.heap.size w) nq;have d0 := keep_cell hb c0;have HB := hd_ hb;clear c0 c1 c2 hb;generalize w.drewN nq = w2 at *;go_wp2_with fail
 go_ret
 exact ⟨congrArg (fun v => Ending.returned (Value.int .i64 v)) (by omega), HB.out⟩
def NextPost (s : Nat) (L : List Bool) (P r sb n c : Nat) (w : World) (e : Ending) (w' : World) : Prop := e = .returned (.tuple #[.int .i64 (s : Nat), .int .i64 0]) /\ bt.Rr w' r false (bt.bytes false L) P sb n c /\ w.grownBy w' (some r)
theorem i64_or_nat (a b : Nat) (ha : a < 4611686018427387904) (hb : b < 4611686018427387904) : bits .or .i64 (a : Int) (b : Int) = ((a ||| b : Nat) : Int) := by
 have hx : a ||| b < 2 ^ 62 := Nat.or_lt_two_pow (by omega) (by omega);have e : ∀ n : Nat, n < 4611686018427387904 -> (BitVec.ofInt 64 (n : Int)).toNat = n := fun n hn => by
  rw [BitVec.toNat_ofInt];omega
 show IntKind.i64.wrap ((BitVec.ofInt 64 (a : Int) ||| BitVec.ofInt 64 (b : Int)).toNat : Int) = _;rw [BitVec.toNat_or, e a ha, e b hb, IntKind.wrap_i64];omega
theorem or_bit (v x : Nat) (hx : x <= 1) (hv : v <= 1048576) : bits .or .i64 ((2 * v : Nat) : Int) (x : Int) = ((2 * v + x : Nat) : Int) := by
 rw [i64_or_nat _ _ (by omega) (by omega)];congr 1
 have := Nat.two_pow_add_eq_or_of_lt (i := 1) (b := x) (by omega) v;rw [Nat.pow_one] at this;exact this.symm
theorem div_step (c m k : Nat) (h : k < m) : 2 * (c / 2 ^ (m - k)) + bitN (c.testBit (m - 1 - k)) = c / 2 ^ (m - (k + 1)) := by
 have e : m - k = (m - (k + 1)) + 1 := by omega
 have e2 : m - 1 - k = m - (k + 1) := by omega
 rw [e, e2, Nat.pow_succ, <- Nat.div_div_eq_div_mul];unfold bitN;rw [Nat.testBit_eq_decide_div_mod_eq];have := Nat.div_add_mod (c / 2 ^ (m - (k + 1))) 2;by_cases h1 : c / 2 ^ (m - (k + 1)) % 2 = 1
 ·simp [h1]
  omega
 ·simp [h1]
  omega
theorem next_any (base : Nat) (w : World) (g : Nat) (ls : List Nat) (tv : Value) (h : Dec base w g ls tv) (hok : pf.Ok ls) (L : List Bool) (P r sb n c : Nat) (hr : bt.Rr w r false (bt.bytes false L) P sb n c) (hn : n = (L.length + 7) / 8) (s : Nat) (hs : s < ls.length) (hs1 : 1 <= ls.getD s 0)
  (hP : P + ls.getD s 0 <= L.length) (hb : ∀ i, i < ls.getD s 0 -> L.getD (P + i) false = (pf.code ls s).testBit (ls.getD s 0 - 1 - i)) (hlen : ls.length <= 4096) :
  Calls Tryz.prog 144 #[.pointer (some ⟨g, 0, none⟩), .pointer (some ⟨r, 0, none⟩)] w (NextPost s L (P + ls.getD s 0) r sb n c w) := by
 have hl16 := hok.le _ (pf.getD_mem hs);have hld := pf.le_deep (pf.getD_mem hs);have hdm : pf.deep ls ∈ ls := pf.deep_mem (by omega);have hd16 := hok.le _ hdm;have hcl := pf.code_lt hok hs hs1;have hp16 : 2 ^ ls.getD s 0 <= 2 ^ 16 := Nat.pow_le_pow_right (by decide) hl16;have HE := hd_ (fun k h1 h2 => pf.early hs (n := k) h1 h2);have HNA := hd_ (fun k h1 h2 => pf.notAbove hs (n := k) h1 h2);have HTC := hd_ (pf.table_code hok hs hs1);have HRK := hd_ (pf.rank_lt hs);have HD := hd_ h;have HOK := hd_ hok;have HRr := hd_ hr;have HN := hd_ hn;have HB := hd_ hb;have hcd : pf.code ls s = pf.first ls (ls.getD s 0) + pf.rank ls s := rfl;obtain ⟨l, hl⟩ : ∃ l, ls.getD s 0 = l := ⟨_, rfl⟩;rw [hl] at hl16 hld hcl hp16 HE HNA HTC HRK HB hcd hP hs1 ⊢;obtain ⟨cd, hcde⟩ : ∃ cd, pf.code ls s = cd := ⟨_, rfl⟩;rw [hcde] at hcl HE HNA HB hcd;have HCD := hd_ hcd;obtain ⟨d, hd⟩ : ∃ d, pf.deep ls = d := ⟨_, rfl⟩;rw [hd] at hld hd16 HNA;have HDE := hd_ hd;have hcd2 : cd < 65536 := by omega
 have HZ0 : Hid (cd / 2 ^ (l - 0) = 0) := hd_ (Nat.div_eq_of_lt hcl);clear h hok hr hn hb hl hcde hd hdm hcl hp16 hcd;go_enter Tryz.func144, Tryz.ntmps144
 go_wp2_with fail
 go_loopg [6, 7, 8, 9, 10] l (fun gk s6 s7 s8 s9 s10 wr => ∃ k : Nat, k < l /\ gk = l - k /\ s6 = .int .i64 (cd / 2 ^ (l - k) : Nat) /\ s7 = .int .i64 (k + 1 : Nat) /\ Dec base wr g ls tv /\ bt.Rr wr r false (bt.bytes false L) (P + k) sb n c /\ w.grownBy wr (some r))
 case atStart => exact ⟨0, by omega, rfl, congrArg (fun z : Nat => Value.int .i64 (z : Int)) HZ0.out.symm, by go_num, HD.out, HRr.out, World.grownBy.refl _ _⟩
 case round =>
  obtain ⟨k, hk, hg, rfl, rfl, hdc, hrr, hgr⟩ := hrel;have Hg := hd_ hg;have HD1 := hd_ hdc;have HR1 := hd_ hrr;have HG1 := hd_ hgr;have c0 := hdc.deep;rw [HDE.out] at c0;obtain ⟨k1, hk1⟩ : ∃ k1, k + 1 = k1 := ⟨_, rfl⟩;rw [hk1];have hkd : k1 <= d := by omega
  have CT := hd_ (take_bit hrr HN.out (by omega));rw [HB.out k hk] at CT;have HDS := hd_ (div_step cd l k hk);rw [hk1] at HDS;have hvq : cd / 2 ^ (l - k) <= 65536 := Nat.le_trans (Nat.div_le_self _ _) (by omega);obtain ⟨v, hv⟩ : ∃ v, cd / 2 ^ (l - k) = v := ⟨_, rfl⟩;obtain ⟨x, hx⟩ : ∃ x, bitN (cd.testBit (l - 1 - k)) = x := ⟨_, rfl⟩;have hx1 : x <= 1 := by rw [<- hx]; exact bitN_le _
  rw [hv] at HDS hvq ⊢;rw [hx] at CT HDS;have hor := or_bit v x hx1 (by omega);have e1 : IntKind.i64.wrap ((v : Int) * 2) = ((2 * v : Nat) : Int) := i64o (by omega) (by omega);obtain ⟨v2, hv2⟩ : ∃ v2, 2 * v = v2 := ⟨_, rfl⟩;obtain ⟨v3, hv3⟩ : ∃ v3, v2 + x = v3 := ⟨_, rfl⟩;rw [hv2] at e1 hor HDS;rw [hv3] at hor HDS;have HK1 := hd_ hk1;have hv3b : v3 <= 131073 := by omega
  clear hdc hrr hgr hg hk1 hv hx hv2 hv3;go_wp2_with fail
  refine CT.out.mono ?_;rintro e w2 ⟨rfl, h2, h3⟩;have hD2 := HD1.out.reader HR1.out.head h3;have HD2 := hd_ hD2;have HR2 := hd_ h2;have HG2 := hd_ (HG1.out.trans h3);clear h2 h3 CT c0 HD1 HR1 HG1;have hk17 : (k1 : Int) < 17 := by omega
  have hk117 : k1 < 17 := by omega
  have c1 := hD2.first hk117;have c2 := hD2.count hk117 (by have := HK1.out; omega);have hfit := pf.fits HOK.out (n := k1) (by have := HK1.out; omega) (by omega);have hp16 : 2 ^ k1 <= 2 ^ 16 := Nat.pow_le_pow_right (by decide) (by omega);by_cases hend : k1 < l
  ·have hea := HE.out k1 (by have := HK1.out; omega) hend
   have hna := HNA.out k1 (by have := HK1.out; omega) hend;rw [<- HDS.out] at hea hna;have CA := hd_ (above_any base w2 g ls tv HD2.out HOK.out k1 (by have := HK1.out; omega) (by rw [HDE.out]; omega));rw [HDE.out] at CA;have hlz : pf.last ls <= 131072 := by
    unfold pf.last;have h1 := pf.fits HOK.out (n := pf.deep ls) (by rw [HDE.out]; omega) (by rw [HDE.out]; exact hd16);have h2 : 2 ^ pf.deep ls <= 2 ^ 16 := Nat.pow_le_pow_right (by decide) (by rw [HDE.out]; exact hd16);omega
   have hzq : pf.last ls / 2 ^ (d - k1) <= 131072 := Nat.le_trans (Nat.div_le_self _ _) hlz;obtain ⟨z, hz⟩ : ∃ z, pf.last ls / 2 ^ (d - k1) = z := ⟨_, rfl⟩;rw [hz] at hna CA hzq;obtain ⟨f, hf⟩ : ∃ f, pf.first ls k1 = f := ⟨_, rfl⟩;obtain ⟨q, hq⟩ : ∃ q, ls.count k1 = q := ⟨_, rfl⟩;rw [hf] at c1 hfit hea;rw [hq] at c2 hfit hea;obtain ⟨kk, hkk⟩ : ∃ kk, v3 - f = kk := ⟨_, rfl⟩;have e3 : IntKind.i64.wrap ((v3 : Int) - (f : Int)) = (kk : Int) := i64o (by omega) (by omega);have hkq : ¬ kk < q := (by omega);have hza : ¬ z + 1 <= v3 := (by omega);have hza2 : ¬ ((z + 1 : Nat) : Int) <= (v3 : Int) := (by omega);have HZA := hd_ hza;clear hea hna hlz hz hf hq hkk hfit hp16 hD2;go_wp2_with fail
   refine CA.out.mono ?_;rintro e w3 ⟨rfl, hb3⟩;have HD3 := hd_ (HD2.out.below hb3);have HR3 := hd_ (HR2.out.below hb3);have HG3 := hd_ (HG2.out.trans (grown_some (row := some r) hb3));clear hb3 CA c1 c2 HD2 HR2 HG2;go_wp2_with fail
   go_roundg (l - k1)
   case measure => have := Hg.out; have := HK1.out; omega
   case rel => exact ⟨k1, hend, rfl, by rw [HDS.out], by go_num, HD3.out, by have h1 := HK1.out; have h2 := HR3.out; rwa [Nat.add_assoc, h1] at h2, HG3.out⟩
  ·have hkl : k1 = l := by have := HK1.out; omega
   subst hkl;have hv3 : v3 = cd := (by have := HDS.out; rwa [Nat.sub_self, Nat.pow_zero, Nat.div_one] at this);subst hv3;have hrk := HRK.out;have hcd := HCD.out;have htc := HTC.out;have c3 := hD2.table;have c4 := hD2.start hk117;obtain ⟨ta, tc, etv, t1, t2, t3⟩ := own_slice' hD2.tab;rw [etv] at c3;have hst : pf.stF ls k1 = (pf.table ls (k1 - 1)).length := (by unfold pf.stF; rw [if_neg (by omega)]);have htl := pf.table_length_le ls 16;have hix := (List.getElem?_eq_some_iff.1 htc).1;rw [hst] at c4;obtain ⟨f, hf⟩ : ∃ f, pf.first ls k1 = f := ⟨_, rfl⟩;obtain ⟨q, hq⟩ : ∃ q, ls.count k1 = q := ⟨_, rfl⟩;obtain ⟨rk, hrke⟩ : ∃ rk, pf.rank ls s = rk := ⟨_, rfl⟩;obtain ⟨st, hste⟩ : ∃ st, (pf.table ls (k1 - 1)).length = st := ⟨_, rfl⟩;obtain ⟨tn, htn⟩ : ∃ tn, (pf.table ls 16).length = tn := ⟨_, rfl⟩;rw [hf] at c1 hfit hcd;rw [hq] at c2 hfit hrk;rw [hrke] at hrk hcd htc hix;rw [hste] at c4 htc hix;rw [htn] at c3 t1 t3 htl hix;have k5 : ∃ tb, ta = some ⟨tb, 0, none⟩ /\ w2.cell? ⟨tb, st + rk, none⟩ = some (.int .i64 (s : Nat)) := by
    rcases t3 with ⟨h0, _⟩ | ⟨tb, e, hc⟩
    ·omega
    ·refine ⟨tb, e, hc _ _ ?_⟩
     unfold nats;rw [List.getElem?_map, List.getElem?_map, htc];rfl
   obtain ⟨tb, rfl, k5⟩ := k5;have e3 : IntKind.i64.wrap ((v3 : Int) - (f : Int)) = (rk : Int) := i64o (by omega) (by omega);obtain ⟨ix, hixe⟩ : ∃ ix, st + rk = ix := ⟨_, rfl⟩;rw [hixe] at k5 hix;have e4 : IntKind.i64.wrap ((st : Int) + (rk : Int)) = (ix : Int) := i64o (by omega) (by omega);have hrq : rk < q := hrk;have hitn : (ix : Int) < (tn : Int) := (by omega);have htix : ¬ tc = ix := (by omega);clear hrk hcd htc hst htl hf hq hrke hste htn hixe hfit hp16 etv t1 t2 t3 hD2;go_upto_region 13 with (fail)
   go_quiet (fail)
   have hb := below_drewN (Below.refl w2.heap.size w2) nq;have HR3 := hd_ (HR2.out.below hb);have HG3 := hd_ (HG2.out.trans (grown_some (row := some r) hb));clear c1 c2 c3 c4 k5 hb HR2 HG2;generalize w2.drewN nq = w3 at *;go_wp2_with fail
   go_ret2
   exact ⟨rfl, by have h1 := HK1.out; have h2 := HR3.out; rwa [Nat.add_assoc, h1] at h2, HG3.out⟩
end Go.Proofs.YthpckmcgbmfmcaaGreatDoor
