/- Texts of this claim, joined. -/
import Derived.Test.YthpckmcgbmfmcaaGreatDoorM4
set_option maxRecDepth 100000
set_option maxHeartbeats 12800000
namespace Go.Proofs.YthpckmcgbmfmcaaGreatDoor
open Go.RowKit Go.Sort
theorem bt.low_bit (x j : Nat) (hx : x < 4294967296) : bits BinOp.and .u32 ((x : Int) / 2 ^ j) 1 % 256 = ((x / 2 ^ j % 2 : Nat) : Int) := by
 have h1 : ((x : Int) / 2 ^ j) = ((x / 2 ^ j : Nat) : Int) := by simp
 have h2 : x / 2 ^ j < 4294967296 := Nat.lt_of_le_of_lt (Nat.div_le_self _ _) hx;have h3 := u32_and_nat (x / 2 ^ j) 1 h2 (by decide);rw [Nat.and_one_is_mod] at h3;rw [h1];show bits BinOp.and .u32 _ ((1 : Nat) : Int) % 256 = _;rw [h3];omega
theorem bt.take_succ (up : Bool) (x n k : Nat) (h : k < n) : (bt.bitsOf up x n).take (k + 1) = (bt.bitsOf up x n).take k ++ [decide (x / 2 ^ (if up then n - 1 - k else k) % 2 = 1)] := by
 have hk : k < (bt.bitsOf up x n).length := by rw [bt.bitsOf_length]; exact h
 rw [List.take_succ_eq_append_getElem hk];congr 2
 simp only [bt.bitsOf, List.getElem_map, List.getElem_range, Nat.testBit_eq_decide_div_mod_eq]
theorem put_true {base g : Nat} {w : World} {L : List Bool} {v : Value} (h : bt.Wr base w g true L v) (hb : base <= w.heap.size) (x n : Nat) (hx : x < 4294967296) (hn : n <= 32) (hL : L.length + 32 <= 1099511627776) :
  Calls Tryz.prog 52 #[.pointer (some ⟨g, 0, none⟩), .int .u32 x, .int .i64 n] w fun e w' => e = .returned (.int .i64 0) /\ ∃ v', bt.Wr base w' g true (L ++ bt.bitsOf true x n) v' /\ bt.Fr base g w w' := by
 have HH := hd_ h;clear h;go_enter Tryz.func52, Tryz.ntmps52
 go_wp2_with fail
 go_loopg [17] n (fun gk i wr => ∃ (k : Nat) (v' : Value), k <= n /\ gk = n - k /\ i = .int .i64 k /\ bt.Wr base wr g true (L ++ (bt.bitsOf true x n).take k) v' /\ bt.Fr base g w wr)
 case atStart => exact ⟨0, v, Nat.zero_le _, rfl, rfl, by simpa using HH.out, bt.Fr.refl _ _ _⟩
 case round =>
  obtain ⟨k, v', hk, hg, rfl, hwr, hfr⟩ := hrel;have Hg := hd_ hg;have HF := hd_ hfr;have c2 := (cr_ wr 2 hwr.head (Value.bool true) rfl);have hl : (L ++ (bt.bitsOf true x n).take k).length <= 1099511627776 := by
   have := bt.bitsOf_length true x n;rw [List.length_append, List.length_take];omega
  by_cases hlt : k < n
  ·have CO := hd_ (one_any hwr (Nat.le_trans hb hfr.below.size) (x / 2 ^ (n - 1 - k) % 2) (by omega) hl)
   have HV := hd_ (bt.low_bit x (n - 1 - k) hx);have HT := hd_ (bt.take_succ true x n k hlt);clear hg hwr hfr hl;go_wp2_with fail
   rw [HV.out];refine CO.out.mono ?_;rintro e w2 ⟨rfl, v2, hw2, hf2⟩;rw [List.append_assoc] at hw2;have HW2 := hd_ hw2;have HF2 := hd_ hf2;clear hw2 hf2 CO c2;go_wp2_with fail
   go_roundg (n - (k + 1))
   case measure => have := Hg.out; omega
   case rel => exact ⟨k + 1, v2, by omega, rfl, by go_num, by rw [HT.out]; exact HW2.out, HF.out.trans HF2.out⟩
  ·obtain rfl : k = n := by omega
   have HW := hd_ hwr;clear hg hwr hfr hl;go_wp2_with fail
   go_ret
   refine ⟨rfl, v', ?_, HF.out⟩;have h1 : (bt.bitsOf true x k).take k = bt.bitsOf true x k := List.take_of_length_le (by rw [bt.bitsOf_length]; omega);rw [<- h1];exact HW.out
theorem put_false {base g : Nat} {w : World} {L : List Bool} {v : Value} (h : bt.Wr base w g false L v) (hb : base <= w.heap.size) (x n : Nat) (hx : x < 4294967296) (hn : n <= 32) (hL : L.length + 32 <= 1099511627776) :
  Calls Tryz.prog 52 #[.pointer (some ⟨g, 0, none⟩), .int .u32 x, .int .i64 n] w fun e w' => e = .returned (.int .i64 0) /\ ∃ v', bt.Wr base w' g false (L ++ bt.bitsOf false x n) v' /\ bt.Fr base g w w' := by
 have HH := hd_ h;clear h;go_enter Tryz.func52, Tryz.ntmps52
 go_wp2_with fail
 go_loopg [17] n (fun gk i wr => ∃ (k : Nat) (v' : Value), k <= n /\ gk = n - k /\ i = .int .i64 k /\ bt.Wr base wr g false (L ++ (bt.bitsOf false x n).take k) v' /\ bt.Fr base g w wr)
 case atStart => exact ⟨0, v, Nat.zero_le _, rfl, rfl, by simpa using HH.out, bt.Fr.refl _ _ _⟩
 case round =>
  obtain ⟨k, v', hk, hg, rfl, hwr, hfr⟩ := hrel;have Hg := hd_ hg;have HF := hd_ hfr;have c2 := (cr_ wr 2 hwr.head (Value.bool false) rfl);have hl : (L ++ (bt.bitsOf false x n).take k).length <= 1099511627776 := by
   have := bt.bitsOf_length false x n;rw [List.length_append, List.length_take];omega
  by_cases hlt : k < n
  ·have CO := hd_ (one_any hwr (Nat.le_trans hb hfr.below.size) (x / 2 ^ k % 2) (by omega) hl)
   have HV := hd_ (bt.low_bit x k hx);have HT := hd_ (bt.take_succ false x n k hlt);clear hg hwr hfr hl;go_wp2_with fail
   rw [HV.out];refine CO.out.mono ?_;rintro e w2 ⟨rfl, v2, hw2, hf2⟩;rw [List.append_assoc] at hw2;have HW2 := hd_ hw2;have HF2 := hd_ hf2;clear hw2 hf2 CO c2;go_wp2_with fail
   go_roundg (n - (k + 1))
   case measure => have := Hg.out; omega
   case rel => exact ⟨k + 1, v2, by omega, rfl, by go_num, by rw [HT.out]; exact HW2.out, HF.out.trans HF2.out⟩
  ·obtain rfl : k = n := by omega
   have HW := hd_ hwr;clear hg hwr hfr hl;go_wp2_with fail
   go_ret
   refine ⟨rfl, v', ?_, HF.out⟩;have h1 : (bt.bitsOf false x k).take k = bt.bitsOf false x k := List.take_of_length_le (by rw [bt.bitsOf_length]; omega);rw [<- h1];exact HW.out
theorem put_any {base g : Nat} {w : World} {up : Bool} {L : List Bool} {v : Value} (h : bt.Wr base w g up L v) (hb : base <= w.heap.size) (x n : Nat) (hx : x < 4294967296) (hn : n <= 32) (hL : L.length + 32 <= 1099511627776) :
  Calls Tryz.prog 52 #[.pointer (some ⟨g, 0, none⟩), .int .u32 x, .int .i64 n] w fun e w' => e = .returned (.int .i64 0) /\ ∃ v', bt.Wr base w' g up (L ++ bt.bitsOf up x n) v' /\ bt.Fr base g w w' := by
 cases up
 ·exact put_false h hb x n hx hn hL
 ·exact put_true h hb x n hx hn hL
def OwnPost (base n : Nat) (l : List Int) (w : World) (e : Ending) (w' : World) : Prop := ∃ v, e = .returned v /\ Fresh .u8 5 base w' v n l /\ Below w.heap.size w w'
theorem clone_any (b off : Nat) (n cap : Nat) (l : List Int) (w : World) (h : Sl .u8 w (some ⟨b, off, none⟩) n cap l) (hr : n <= 140737488355328) :
  Calls Tryz.prog 106 #[.slice (some ⟨b, off, none⟩) n cap] w fun e w' => OwnPost w.heap.size n l w e w' := by
 obtain ⟨i0, hi, hz0, hz1, hz2⟩ := info_parts infoByte;have hlit := World.ownsRow_lit (e := 5) (size := 1) w #[] 0 (Nat.le_refl _) (by simp) rfl;have H := hd_ h;have Hlit := hd_ hlit;clear h hlit;have hsl := H.out.below ((Below.refl _ _).alloc (Nat.le_refl _) (.cells #[] 5));have HN := hd_ hsl.at_news;have hsz : (w.alloc (.cells #[] 5)).heap.size = w.heap.size + 1 := by simp
 have Hsz := hd_ hsz;clear hsl hsz;have hnil := fun (w : World) => Lib.run_eql_slice_nil (P := Tryz.prog) w 22 5 (some ⟨b, off, none⟩) n cap 0 0 Tryz.underlying22
 go_enter Tryz.func106, Tryz.ntmps106
 go_wp2_with (at_builtin; go_must (refine wpList_append_own _ rfl _ _ 22 rfl w.heap.size 5 i0 (.int .u8 0) 1 1 Tryz.underlying22 hi hz0 hz1 hz2 rfl (by decide) (.slice (some ⟨w.heap.size, 0, none⟩) 0 0) 0 _ rfl Hlit.out ⟨b, off, none⟩ n cap (l.map (Value.int .u8)) rfl (by rw [List.length_map, H.out.len, Nat.mul_one]) HN.out (ints_oneCell _ _) (by unfold maxLen; omega) (by omega) (by rw [Hsz.out]; omega) ?_; intro v' w1 hown hg hnil; have Hown := hd_ hown; have Hg := hd_ hg; have Hnil := hd_ hnil; clear hown hg hnil))
 go_ret
 have ho : w1.ownsRow w.heap.size 5 1 v' n (l.map (Value.int .u8)) := by
  have := Hown.out
  simpa using this
 refine ⟨_, rfl, fresh_of ho (fun e => ?_), ((Below.refl _ _).alloc (Nat.le_refl _) _).grown Hg.out (by simp) (fun k hk => Nat.le_of_eq (Option.some.inj hk))⟩;exact absurd (Hnil.out.1 e) (by simp)
theorem wbytes_any {base g : Nat} {w : World} {up : Bool} {L : List Bool} {v : Value} (h : bt.Wr base w g up L v) (hL : L.length <= 1099511627776) (h0 : 0 < L.length) :
  Calls Tryz.prog 55 #[.pointer (some ⟨g, 0, none⟩)] w fun e w' => OwnPost w.heap.size ((L.length + 7) / 8) (bt.bytes up L) w e w' := by
 obtain ⟨b, cap, rfl, hc⟩ := own_form h.row (by omega);have c0 := (cr_ w 0 h.head (Value.slice (some ⟨b, 0, none⟩) ((L.length + 7) / 8) cap) rfl);have CL := hd_ (clone_any b 0 _ cap (bt.bytes up L) w (Fresh.sl h.row (wf_of_bytes (bt.bytes_range up L))) (by omega));clear h;generalize (L.length + 7) / 8 = n at *;go_enter Tryz.func55, Tryz.ntmps55
 go_wp2_with fail
 refine CL.out.mono ?_;rintro e w2 ⟨v, rfl, hf, hb⟩;have HF := hd_ hf;have HB := hd_ hb;clear hf hb CL;go_wp2_with fail
 go_ret
 exact ⟨_, rfl, HF.out, HB.out⟩
structure bt.Rr (w : World) (g : Nat) (up : Bool) (d : List Int) (k sb n c : Nat) : Prop where
 head : w.heap[g]? = some (.cells #[.slice (some ⟨sb, 0, none⟩) n c, .int .i64 k, .bool up, bt.pv up] 195 (0, 0))
 data : Sl .u8 w (some ⟨sb, 0, none⟩) n c d
 apart : sb < g
 small : n <= 137438953472
theorem bt.Rr.below {w w' : World} {g : Nat} {up : Bool} {d : List Int} {k sb n c : Nat} (h : bt.Rr w g up d k sb n c) (hb : Below w.heap.size w w') : bt.Rr w' g up d k sb n c :=
 ⟨(hb.block _ (block_lt h.head)).trans h.head, h.data.below hb, h.apart, h.small⟩
def bt.NewPost (up : Bool) (l : List Int) (n : Nat) (w : World) (e : Ending) (w' : World) : Prop := ∃ g sb c, e = .returned (.pointer (some ⟨g, 0, none⟩)) /\ bt.Rr w' g up l 0 sb n c /\ w.heap.size <= g /\ w.heap.size <= sb /\ Below w.heap.size w w'
theorem newReader_true (b off n cap : Nat) (l : List Int) (w : World) (h : Sl .u8 w (some ⟨b, off, none⟩) n cap l) (hr : n <= 137438953472) :
  Calls Tryz.prog 59 #[.slice (some ⟨b, off, none⟩) n cap, .bool true] w (bt.NewPost true l n w) := by
 have CL := hd_ (clone_any b off n cap l w h (by omega));have HB8 := hd_ h.wf;have HO := fun w => (order_any true w : Calls Tryz.prog _ _ w fun e w' => e = .returned (.func (.func 131) #[] #[]) /\ w = w')
 have HO := hd_ HO;clear h;go_enter Tryz.func59, Tryz.ntmps59
 go_wp2_with fail
 refine CL.out.mono ?_;rintro e w2 ⟨v, rfl, hf, hb⟩;obtain ⟨g2, c2, rfl, hg2, ho⟩ := hf;have HOW := hd_ ho;have HB := hd_ hb;clear ho hb CL;go_wp2_with fail
 refine (HO.out _).mono ?_;rintro e w3 ⟨rfl, rfl⟩;go_wp2_with fail
 go_ret
 have HS := Fresh.sl HOW.out HB8.out;exact ⟨_, g2, c2, rfl, ⟨heap_alloc_new _ _, HS.below ((Below.refl _ _).alloc (Nat.le_refl _) _), (World.ownsRow.lt HOW.out g2 rfl).2, hr⟩, HB.out.size, hg2, HB.out.alloc (HB.out.size) _⟩
theorem newReader_false (b off n cap : Nat) (l : List Int) (w : World) (h : Sl .u8 w (some ⟨b, off, none⟩) n cap l) (hr : n <= 137438953472) :
  Calls Tryz.prog 59 #[.slice (some ⟨b, off, none⟩) n cap, .bool false] w (bt.NewPost false l n w) := by
 have CL := hd_ (clone_any b off n cap l w h (by omega));have HB8 := hd_ h.wf;have HO := fun w => (order_any false w : Calls Tryz.prog _ _ w fun e w' => e = .returned (.func (.func 132) #[] #[]) /\ w = w')
 have HO := hd_ HO;clear h;go_enter Tryz.func59, Tryz.ntmps59
 go_wp2_with fail
 refine CL.out.mono ?_;rintro e w2 ⟨v, rfl, hf, hb⟩;obtain ⟨g2, c2, rfl, hg2, ho⟩ := hf;have HOW := hd_ ho;have HB := hd_ hb;clear ho hb CL;go_wp2_with fail
 refine (HO.out _).mono ?_;rintro e w3 ⟨rfl, rfl⟩;go_wp2_with fail
 go_ret
 have HS := Fresh.sl HOW.out HB8.out;exact ⟨_, g2, c2, rfl, ⟨heap_alloc_new _ _, HS.below ((Below.refl _ _).alloc (Nat.le_refl _) _), (World.ownsRow.lt HOW.out g2 rfl).2, hr⟩, HB.out.size, hg2, HB.out.alloc (HB.out.size) _⟩
theorem left_any {w : World} {g : Nat} {up : Bool} {d : List Int} {k sb n c : Nat} (h : bt.Rr w g up d k sb n c) (hk : k <= 8 * n) :
  Calls Tryz.prog 122 #[.pointer (some ⟨g, 0, none⟩)] w fun e w' => e = .returned (.int .i64 ((8 * n - k : Nat) : Int)) /\ Below w.heap.size w w' := by
 have c0 := (cr_ w 0 h.head (Value.slice (some ⟨sb, 0, none⟩) n c) rfl);have c1 := (cr_ w 1 h.head (Value.int .i64 (k : Int)) rfl);have hs := h.small;clear h;go_enter Tryz.func122, Tryz.ntmps122
 go_wp2_with fail
 go_quiet (fail)
 go_wp2_with fail
 go_ret
 refine ⟨?_, below_drewN (Below.refl _ _) _⟩;go_num
def bt.TakePost (up : Bool) (L : List Bool) (k m : Nat) (g sb n c : Nat) (w : World) (e : Ending) (w' : World) : Prop := e = .returned (.tuple #[.int .u32 (bt.valTo up L k m : Nat), .int .i64 0]) /\ bt.Rr w' g up (bt.bytes up L) (k + m) sb n c /\ w.grownBy w' (some g)
def bt.TakeRel (up : Bool) (L : List Bool) (k m : Nat) (g sb n c : Nat) (w : World) (gk : Nat) (v i : Value) (wr : World) : Prop :=
 ∃ j : Nat, j <= m /\ gk = m - j /\ v = .int .u32 (bt.valTo up L k j : Nat) /\ i = .int .i64 j /\ bt.Rr wr g up (bt.bytes up L) (k + j) sb n c /\ w.grownBy wr (some g)
theorem grown_some {a b : World} {row : Option Nat} (h : Below a.heap.size a b) : a.grownBy b row := ⟨h.os, h.tape, h.output, h.size, fun i hi _ => h.block i hi⟩
theorem sl_cell {k : IntKind} {w : World} {b n cap : Nat} {l : List Int} (h : Sl k w (some ⟨b, 0, none⟩) n cap l) {i : Nat} (hi : i < n) : w.cell? ⟨b, i, none⟩ = some (.int k (l.getD i 0)) := by
 obtain ⟨b', off', e, hc⟩ := h.cells (by omega);simp only [Option.some.injEq, Addr.mk.injEq, and_true] at e;obtain ⟨rfl, rfl⟩ := e;have := hc i hi
 rwa [Nat.zero_add] at this
theorem bt.val_bit (y pl b : Nat) (hy : y < 256) (hb : y >>> pl % 2 = b) : bits BinOp.and .u32 ((y : Int) / 2 ^ pl % 4294967296) 1 = (b : Int) := by
 have h1 : ((y : Int) / 2 ^ pl) = ((y / 2 ^ pl : Nat) : Int) := by simp
 have h2 : y / 2 ^ pl < 256 := Nat.lt_of_le_of_lt (Nat.div_le_self _ _) hy;have h3 := u32_and_nat (y / 2 ^ pl) 1 (by omega) (by decide);rw [Nat.and_one_is_mod] at h3;have h4 : (((y / 2 ^ pl : Nat) : Int) % 4294967296) = ((y / 2 ^ pl : Nat) : Int) := by
  generalize y / 2 ^ pl = q at *;omega
 rw [h1, h4];show bits BinOp.and .u32 _ ((1 : Nat) : Int) = _;rw [h3, <- hb, Nat.shiftRight_eq_div_pow]
theorem bt.val_high (L : List Bool) (k j y pl : Nat) (hj : j < 32) (hy : y < 256) (hb : y >>> pl % 2 = if L.getD (k + j) false = true then 1 else 0) :
  bits BinOp.or .u32 ((bt.valTo true L k j : Int) * 2 % 4294967296) (bits BinOp.and .u32 ((y : Int) / 2 ^ pl % 4294967296) 1) = ((bt.valTo true L k (j + 1) : Nat) : Int) := by
 rw [bt.val_bit y pl _ hy hb, bt.valTo, if_pos rfl];have h1 := bt.valTo_lt true L k j;have h2 : 2 ^ j <= 2 ^ 31 := Nat.pow_le_pow_right (by decide) (by omega);generalize bt.valTo true L k j = V at *;have h3 : ((V : Int) * 2 % 4294967296) = ((2 * V : Nat) : Int) := by omega
 have hb1 : (if L.getD (k + j) false = true then 1 else 0) < 2 := by split <;> omega
 generalize (if L.getD (k + j) false = true then 1 else 0) = b at *;rw [h3, u32_or_nat (2 * V) b (by omega) (by omega)];have := Nat.two_pow_add_eq_or_of_lt (i := 1) (b := b) (by omega) V;rw [Nat.pow_one] at this;rw [<- this]
theorem bt.val_low (L : List Bool) (k j y pl : Nat) (hj : j < 32) (hy : y < 256) (hb : y >>> pl % 2 = if L.getD (k + j) false = true then 1 else 0) :
  bits BinOp.or .u32 ((bt.valTo false L k j : Nat) : Int) (bits BinOp.and .u32 ((y : Int) / 2 ^ pl % 4294967296) 1 * 2 ^ j % 4294967296) = ((bt.valTo false L k (j + 1) : Nat) : Int) := by
 rw [bt.val_bit y pl _ hy hb, bt.valTo];simp only [Bool.false_eq_true, if_false];have h1 := bt.valTo_lt false L k j;have h2 : 2 ^ j <= 2 ^ 31 := Nat.pow_le_pow_right (by decide) (by omega);generalize bt.valTo false L k j = V at *;have hb1 : (if L.getD (k + j) false = true then 1 else 0) < 2 := by split <;> omega
 have hbv : (if L.getD (k + j) false = true then 2 ^ j else 0) = (if L.getD (k + j) false = true then 1 else 0) * 2 ^ j := by split <;> simp
 rw [hbv];generalize (if L.getD (k + j) false = true then 1 else 0) = b at *;have hle : b * 2 ^ j <= 1 * 2 ^ j := Nat.mul_le_mul_right _ (by omega);have h3 : ((b : Int) * 2 ^ j % 4294967296) = ((2 ^ j * b : Nat) : Int) := by
  have e : ((b : Int) * 2 ^ j) = ((2 ^ j * b : Nat) : Int) := by rw [Nat.mul_comm]; simp
  rw [e, Nat.mul_comm];rw [Int.emod_eq_of_lt (by omega) (by omega)]
 rw [h3];have hc : 2 ^ j * b = b * 2 ^ j := Nat.mul_comm _ _;have h4 := u32_or_nat V (2 ^ j * b) (by omega) (by omega);rw [h4, Nat.or_comm, <- Nat.two_pow_add_eq_or_of_lt (i := j) h1 b, hc];congr 1
 omega
theorem take_true {w : World} {g : Nat} {L : List Bool} {k sb n c : Nat} (h : bt.Rr w g true (bt.bytes true L) k sb n c) (hn : n = (L.length + 7) / 8) (m : Nat) (hm : m <= 32) (hk : k + m <= 8 * n) :
  Calls Tryz.prog 77 #[.pointer (some ⟨g, 0, none⟩), .int .i64 m] w (bt.TakePost true L k m g sb n c w) := by
 have hs := h.small;have CL := hd_ (left_any h (by omega));have HH := hd_ h;have HN := hd_ hn;clear h hn;obtain ⟨lf, hlf⟩ : ∃ lf, 8 * n - k = lf := ⟨_, rfl⟩;rw [hlf] at CL;have hlm : ¬ ((lf : Int) < (m : Int)) := by omega
 have HLF := hd_ hlf;clear hlf;go_enter Tryz.func77, Tryz.ntmps77
 go_wp2_with fail
 refine CL.out.mono ?_;rintro e w1 ⟨rfl, hb1⟩;have HR1 := hd_ (HH.out.below hb1);have HG1 := hd_ (grown_some (row := some g) hb1);clear CL hb1;go_wp2_with fail
 clear hlm;go_loopg [6, 25] m (fun gk v i wr => bt.TakeRel true L k m g sb n c w gk v i wr)
 case atStart => exact ⟨0, Nat.zero_le _, rfl, rfl, rfl, HR1.out, HG1.out⟩
 case round =>
  obtain ⟨j, hj, hg, rfl, rfl, hr, hgw⟩ := hrel;have Hg := hd_ hg;have HR := hd_ hr;have HGW := hd_ hgw;clear hg hr hgw HR1 HG1;by_cases hlt : j < m
  ·have hlt' : j < 32 := by omega
   obtain ⟨q, hq⟩ : ∃ q, k + j = q := ⟨_, rfl⟩;rw [hq] at HR;have g0 := (cr_ wr 0 HR.out.head (Value.slice (some ⟨sb, 0, none⟩) n c) rfl);have g1 := (cr_ wr 1 HR.out.head (Value.int .i64 (q : Int)) rfl);have g2 := (cr_ wr 2 HR.out.head (Value.bool true) rfl);have g3 := (cr_ wr 3 HR.out.head (Value.func (.func 131) #[] #[]) rfl);have f1 := frozen_of_row wr _ 1 _ _ HR.out.head;obtain ⟨t, ht⟩ : ∃ t, q / 8 = t := ⟨_, rfl⟩;have htn : t < n := (by omega);have gb := sl_cell HR.out.data htn;rw [bt.bytes_getD true L (by rw [<- HN.out]; exact htn)] at gb;have hby := bt.byteOf_lt true L t;have hbit := bt.bit_of true L q;rw [ht] at hbit;obtain ⟨y, hy⟩ : ∃ y, bt.byteOf true L t = y := ⟨_, rfl⟩;rw [hy] at gb hby hbit;have hplt := bt.place_lt true q;have CN : Hid (∀ d, Calls Tryz.prog 131 #[.int .i64 (q : Nat)] (wr.drewN d) fun e w' => e = .returned (.int .u64 (bt.place true q : Nat)) /\ w' = wr.drewN d) := hd_ (fun d => (high_any q (wr.drewN d) (by omega)).mono (by rintro e w' ⟨rfl, rfl⟩; exact ⟨rfl, rfl⟩));obtain ⟨pl, hpl⟩ : ∃ pl, bt.place true q = pl := ⟨_, rfl⟩;rw [hpl] at CN hplt hbit;have d8 : (q : Int) / 8 = (t : Nat) := (by omega);have htn' : (t : Int) < (n : Int) := (by omega);have HQ := hd_ hq;have HBIT := hd_ hbit;clear hq ht hy hpl hbit;go_wp2_with fail
   go_quiet (exact Calls.quiet_of_same (CN.out _))
   go_wp2_with fail
   have HV := bt.val_high L k j y pl hlt' hby (by rw [HQ.out]; exact HBIT.out);go_roundg (m - (j + 1))
   case measure => have := Hg.out; omega
   case rel =>
    refine ⟨j + 1, by omega, rfl, by rw [<- HV], by go_num, ?_, ?_⟩
    ·have e1 : k + (j + 1) = q + 1 := by have := HQ.out; omega
     rw [e1];have hd := heap_setCell_same (wr.drewN nq) g 1 _ _ (.int .i64 ((q : Int) + 1)) HR.out.head;exact ⟨hd, (HR.out.data.below (below_drewN (Below.refl _ _) nq)).grown (grownBy_setCell3 _ g 1 _) (by intro e; have := HR.out.apart; simp at e; omega), HR.out.apart, HR.out.small⟩
    ·exact HGW.out.trans ((grown_some (below_drewN (Below.refl _ _) nq)).trans (grownBy_setCell3 _ g 1 _))
  ·obtain rfl : j = m := by omega
   go_wp2_with fail
   go_ret2
   exact ⟨rfl, HR.out, HGW.out⟩
theorem take_false {w : World} {g : Nat} {L : List Bool} {k sb n c : Nat} (h : bt.Rr w g false (bt.bytes false L) k sb n c) (hn : n = (L.length + 7) / 8) (m : Nat) (hm : m <= 32) (hk : k + m <= 8 * n) :
  Calls Tryz.prog 77 #[.pointer (some ⟨g, 0, none⟩), .int .i64 m] w (bt.TakePost false L k m g sb n c w) := by
 have hs := h.small;have CL := hd_ (left_any h (by omega));have HH := hd_ h;have HN := hd_ hn;clear h hn;obtain ⟨lf, hlf⟩ : ∃ lf, 8 * n - k = lf := ⟨_, rfl⟩;rw [hlf] at CL;have hlm : ¬ ((lf : Int) < (m : Int)) := by omega
 have HLF := hd_ hlf;clear hlf;go_enter Tryz.func77, Tryz.ntmps77
 go_wp2_with fail
 refine CL.out.mono ?_;rintro e w1 ⟨rfl, hb1⟩;have HR1 := hd_ (HH.out.below hb1);have HG1 := hd_ (grown_some (row := some g) hb1);clear CL hb1;go_wp2_with fail
 clear hlm;go_loopg [6, 25] m (fun gk v i wr => bt.TakeRel false L k m g sb n c w gk v i wr)
 case atStart => exact ⟨0, Nat.zero_le _, rfl, rfl, rfl, HR1.out, HG1.out⟩
 case round =>
  obtain ⟨j, hj, hg, rfl, rfl, hr, hgw⟩ := hrel;have Hg := hd_ hg;have HR := hd_ hr;have HGW := hd_ hgw;clear hg hr hgw HR1 HG1;by_cases hlt : j < m
  ·have hlt' : j < 32 := by omega
   obtain ⟨q, hq⟩ : ∃ q, k + j = q := ⟨_, rfl⟩;rw [hq] at HR;have g0 := (cr_ wr 0 HR.out.head (Value.slice (some ⟨sb, 0, none⟩) n c) rfl);have g1 := (cr_ wr 1 HR.out.head (Value.int .i64 (q : Int)) rfl);have g2 := (cr_ wr 2 HR.out.head (Value.bool false) rfl);have g3 := (cr_ wr 3 HR.out.head (Value.func (.func 132) #[] #[]) rfl);have f1 := frozen_of_row wr _ 1 _ _ HR.out.head;obtain ⟨t, ht⟩ : ∃ t, q / 8 = t := ⟨_, rfl⟩;have htn : t < n := (by omega);have gb := sl_cell HR.out.data htn;rw [bt.bytes_getD false L (by rw [<- HN.out]; exact htn)] at gb;have hby := bt.byteOf_lt false L t;have hbit := bt.bit_of false L q;rw [ht] at hbit;obtain ⟨y, hy⟩ : ∃ y, bt.byteOf false L t = y := ⟨_, rfl⟩;rw [hy] at gb hby hbit;have hplt := bt.place_lt false q;have CN : Hid (∀ d, Calls Tryz.prog 132 #[.int .i64 (q : Nat)] (wr.drewN d) fun e w' => e = .returned (.int .u64 (bt.place false q : Nat)) /\ w' = wr.drewN d) := hd_ (fun d => (low_any q (wr.drewN d) (by omega)).mono (by rintro e w' ⟨rfl, rfl⟩; exact ⟨rfl, rfl⟩));obtain ⟨pl, hpl⟩ : ∃ pl, bt.place false q = pl := ⟨_, rfl⟩;rw [hpl] at CN hplt hbit;have d8 : (q : Int) / 8 = (t : Nat) := (by omega);have htn' : (t : Int) < (n : Int) := (by omega);have HQ := hd_ hq;have HBIT := hd_ hbit;clear hq ht hy hpl hbit;go_wp2_with fail
   go_quiet (exact Calls.quiet_of_same (CN.out _))
   go_wp2_with fail
   have HV := bt.val_low L k j y pl hlt' hby (by rw [HQ.out]; exact HBIT.out);go_roundg (m - (j + 1))
   case measure => have := Hg.out; omega
   case rel =>
    refine ⟨j + 1, by omega, rfl, by rw [<- HV], by go_num, ?_, ?_⟩
    ·have e1 : k + (j + 1) = q + 1 := by have := HQ.out; omega
     rw [e1];have hd := heap_setCell_same (wr.drewN nq) g 1 _ _ (.int .i64 ((q : Int) + 1)) HR.out.head;exact ⟨hd, (HR.out.data.below (below_drewN (Below.refl _ _) nq)).grown (grownBy_setCell3 _ g 1 _) (by intro e; have := HR.out.apart; simp at e; omega), HR.out.apart, HR.out.small⟩
    ·exact HGW.out.trans ((grown_some (below_drewN (Below.refl _ _) nq)).trans (grownBy_setCell3 _ g 1 _))
  ·obtain rfl : j = m := by omega
   go_wp2_with fail
   go_ret2
   exact ⟨rfl, HR.out, HGW.out⟩
theorem take_any {w : World} {g : Nat} {up : Bool} {L : List Bool} {k sb n c : Nat} (h : bt.Rr w g up (bt.bytes up L) k sb n c) (hn : n = (L.length + 7) / 8) (m : Nat) (hm : m <= 32) (hk : k + m <= 8 * n) :
  Calls Tryz.prog 77 #[.pointer (some ⟨g, 0, none⟩), .int .i64 m] w (bt.TakePost up L k m g sb n c w) := by
 cases up
 ·exact take_false h hn m hm hk
 ·exact take_true h hn m hm hk
theorem newReader_any (up : Bool) (b off n cap : Nat) (l : List Int) (w : World) (h : Sl .u8 w (some ⟨b, off, none⟩) n cap l) (hr : n <= 137438953472) :
  Calls Tryz.prog 59 #[.slice (some ⟨b, off, none⟩) n cap, .bool up] w (bt.NewPost up l n w) := by
 cases up
 ·exact newReader_false b off n cap l w h hr
 ·exact newReader_true b off n cap l w h hr
end Go.Proofs.YthpckmcgbmfmcaaGreatDoor
