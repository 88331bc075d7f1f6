/- Texts of this claim, joined. -/
import Derived.Test.YthpckmcgbmfmcaaGreatDoorM3
import Derived.OneCell
set_option maxRecDepth 100000
set_option maxHeartbeats 12800000
namespace Go.Proofs.YthpckmcgbmfmcaaGreatDoor
open Go.RowKit Go.Sort
theorem high_grown (n : Nat) (w : World) (hi : n <= 1125899906842624) (d : Nat) (os : Array Obj) : Calls Tryz.prog 131 #[.int .i64 (n : Nat)] (grow (redrawn w d) os) fun e w'' => e = .returned (.int .u64 (bt.place true n : Nat)) /\ ∃ p : Regrown, w'' = grow (redrawn w p.d) p.os :=
 (high_any n _ hi).mono (by rintro e w' ⟨rfl, rfl⟩; exact ⟨rfl, ⟨d, os⟩, rfl⟩)
theorem low_grown (n : Nat) (w : World) (hi : n <= 1125899906842624) (d : Nat) (os : Array Obj) : Calls Tryz.prog 132 #[.int .i64 (n : Nat)] (grow (redrawn w d) os) fun e w'' => e = .returned (.int .u64 (bt.place false n : Nat)) /\ ∃ p : Regrown, w'' = grow (redrawn w p.d) p.os :=
 (low_any n _ hi).mono (by rintro e w' ⟨rfl, rfl⟩; exact ⟨rfl, ⟨d, os⟩, rfl⟩)
theorem rows_or {w : World} {base m size : Nat} {e : TypeId} {xs : List Value} {v : Value} (h : w.ownsRow base e size v m xs) : v.ownBlock = none \/ ∃ g cur, v.ownBlock = some g /\ w.heap[g]? = some (.cells cur e (0, 0)) := by
 rcases h.2 with ⟨rfl, _⟩ | ⟨g, cap, cur, rfl, _, h2, _⟩
 ·exact .inl rfl
 ·exact .inr ⟨g, cur, rfl, h2⟩
theorem one_new_true {base g : Nat} {w : World} {L : List Bool} {v : Value} (h : bt.Wr base w g true L v) (hb : base <= w.heap.size) (x : Nat) (hx : x <= 1) (hL : L.length <= 1099511627776) (h0 : L.length % 8 = 0) :
  Calls Tryz.prog 99 #[.pointer (some ⟨g, 0, none⟩), .int .u8 x] w fun e w' => e = .returned (.tuple #[]) /\ ∃ v', bt.Wr base w' g true (L ++ [decide (x = 1)]) v' /\ bt.Fr base g w w' := by
 have c0 := (cell_of_row w _ 0 _ _ (0, 0) h.head).trans rfl;have c1 := (cell_of_row w _ 1 _ _ (0, 0) h.head).trans rfl;obtain ⟨n, hn⟩ : ∃ n, L.length = n := ⟨_, rfl⟩;rw [hn] at c1 h0 hL;have HN := hd_ hn;have m0 : (n : Int) % 8 = 0 := by omega
 obtain ⟨q, hq⟩ : ∃ q, q = n / 8 := ⟨_, rfl⟩;have hl8 : (n + 7) / 8 = q := by omega
 have HROW := h.row;rw [hn, hl8] at HROW;have HR := hd_ (HROW.alloc (.cells #[.int .u8 0] 5));have S0 := hd_ (sl_bytes w [0] 5 (0, 0) _ rfl (by decide) (wf_of_bytes (by intro z hz; simp at hz; omega)));have SZ : base <= (w.alloc (.cells #[.int .u8 0] 5)).heap.size := by simp; omega
 have HD := hd_ ((Below.heap_alloc w (.cells #[.int .u8 0] 5) _ (block_lt h.head)).trans h.head);have HF := hd_ (World.grownBy_alloc w (.cells #[.int .u8 0] 5) v.ownBlock);have HH := hd_ h;have HQ := hd_ hq;clear h HROW hl8 hq;go_enter Tryz.func99, Tryz.ntmps99
 have NG : Hid (some g ≠ v.ownBlock) := hd_ (by
  rcases rows_or HH.out.row with e | ⟨g', cur, e, h2⟩
  ·rw [e]; simp
  ·rw [e]
   intro e2;cases e2;rw [HH.out.head] at h2;cases h2)
 go_wp2_with (at_builtin; go_must (refine wpList_of_append rfl (.tmp 14) (.tmp 15) 22 22 rfl (run_append_sl_at _ _ base v q (bt.bytes true L) HR.out ⟨w.heap.size, 0, none⟩ 1 1 [0] S0.out (by have := HQ.out; omega) SZ) ?_; rintro v2 w2 ⟨⟨ho2, hg2⟩, hv2⟩; obtain ⟨b2, cp2, rfl, hc2⟩ := own_form ho2 (by omega); have HO2 := hd_ ho2; have HG2 := hd_ (HF.out.trans hg2); have HD2 := hd_ ((hg2.block _ (block_lt HD.out) NG.out).trans HD.out); clear ho2 hg2 hv2; have e0 := (cell_of_row w2 _ 0 _ _ (0, 0) HD2.out).trans rfl; have f0 := frozen_of_row w2 _ 0 _ _ HD2.out))
 have H3 : Hid ((w2.setCell ⟨g, 0, none⟩ (.slice (some ⟨b2, 0, none⟩) (q + 1) cp2)).heap[g]? = some (.cells #[.slice (some ⟨b2, 0, none⟩) (q + 1) cp2, .int .i64 (L.length : Nat), .bool true, bt.pv true] 180 (0, 0))) := hd_ (heap_setCell_same w2 g 0 _ _ (.slice (some ⟨b2, 0, none⟩) (q + 1) cp2) HD2.out);have NB : b2 ≠ g := row_ne HO2.out HD2.out (by decide);have O3 := hd_ (ownsRow_setCell_other HO2.out (a := ⟨g, 0, none⟩) (by intro e; exact NB (Option.some.inj e)) (.slice (some ⟨b2, 0, none⟩) (q + 1) cp2));have F3 := hd_ ((HH.out.fr_grown hb HG2.out).setCell HH.out.lies ⟨g, 0, none⟩ rfl (.slice (some ⟨b2, 0, none⟩) (q + 1) cp2));have HL : Hid (bt.bytes true (L ++ [decide (x = 1)]) = (bt.bytes true L ++ [0]).set q ((bt.byteOf true L q ||| (if decide (x = 1) = true then 1 else 0) <<< bt.place true n : Nat) : Int)) := hd_ (by rw [bt.bytes_snoc, hn, if_pos h0, <- HQ.out]);have HG : Hid ((bt.bytes true L ++ [0]).getD q 0 = ((bt.byteOf true L q : Nat) : Int)) := hd_ (by
  have h8 : (bt.bytes true L).length = q := by rw [bt.bytes_length, hn]; have := HQ.out; omega
  rw [<- h8, List.getD_eq_getElem?_getD, List.getElem?_append_right (Nat.le_refl _), Nat.sub_self, h8, bt.byteOf_none true L (by have := HQ.out; omega)];rfl)
 have HC2 := hd_ hc2;clear e0 f0 HO2 HD2 HG2 HR S0 HD HF m0 SZ hc2;generalize w2.setCell ⟨g, 0, none⟩ (.slice (some ⟨b2, 0, none⟩) (q + 1) cp2) = w3 at *;obtain ⟨BL, hBL⟩ : ∃ BL, BL = bt.bytes true L ++ [0] := ⟨_, rfl⟩;rw [<- hBL] at O3 HL HG;obtain ⟨cur, hcur, hck, hcs, _⟩ := own_cur O3.out (k := q) (by omega);rw [HG.out] at hck;have hby := bt.byteOf_lt true L q;obtain ⟨y, hy⟩ : ∃ y, y = bt.byteOf true L q := ⟨_, rfl⟩;have HY := hd_ hy;rw [<- hy] at hck HL hby;have hplt := bt.place_lt true n;have CN := hd_ (high_grown n w3 (by omega));obtain ⟨pl, hpl⟩ : ∃ pl, pl = bt.place true n := ⟨_, rfl⟩;rw [<- hpl] at CN HL hplt;have HPL := hd_ hpl;have hshl : x <<< pl < 256 := by
  rw [Nat.shiftLeft_eq];have h2 : 2 ^ pl <= 2 ^ 7 := Nat.pow_le_pow_right (by decide) (by omega);have h3 : x * 2 ^ pl <= 1 * 2 ^ 7 := Nat.mul_le_mul hx h2;omega
 have g0 := cell_regrown ((cr_ w3 0 H3.out (Value.slice (some ⟨b2, 0, none⟩) (q + 1) cp2) rfl));have g1 := cell_regrown ((cr_ w3 1 H3.out (Value.int .i64 (L.length : Nat)) rfl));have g3 := cell_regrown ((cr_ w3 3 H3.out (Value.func (.func 131) #[] #[]) rfl));rw [HN.out] at g1;have gb := cell_regrown ((cell_of_row w3 _ q _ _ (0, 0) hcur).trans hck);have d8 : (n : Int) / 8 = (q : Nat) := by have := HQ.out; omega
 have u1 : q < q + 1 := by omega
 have HCK := hd_ hck;clear hy hpl hck;refine wp_region_quiet_tail 23 (by kernel_rfl) (by kernel_rfl) ?_;simp only [List.take_succ_cons, List.take_zero, List.drop_succ_cons, List.drop_zero]
 repeat (go_big_quiet_step (exact CN.out _ _))
 have hor : bits .or .u8 (y : Int) ((x : Int) * 2 ^ pl % 256) = ((y ||| x <<< pl : Nat) : Int) := by
  have h1 : ((x : Int) * 2 ^ pl % 256) = ((x <<< pl : Nat) : Int) := by
   obtain ⟨u, hu⟩ : ∃ u, u = x <<< pl := ⟨_, rfl⟩;rw [<- hu] at hshl ⊢;rw [<- Int.emod_eq_of_lt (a := (u : Int)) (b := 256) (by omega) (by omega), hu, Nat.shiftLeft_eq];simp
  rw [h1];exact u8_or_nat _ _ hby hshl
 rw [hor];refine wpQuiet_nil ?_;intro _ hw';obtain ⟨⟨dq, osq⟩, hw''⟩ := hw';subst hw'';have hb4 := below_regrown w3 dq osq;clear g0 g1 g3 gb d8 hor;generalize grow (redrawn w3 dq) osq = w4 at *;have H4 := hd_ ((hb4.block _ (block_lt H3.out)).trans H3.out);have hcur4 := (hb4.block _ (block_lt hcur)).trans hcur;have O4 := hd_ (ownsRow_below O3.out hb4);have F4 := hd_ (F3.out.trans ⟨hb4.mono (Nat.le_trans hb F3.out.below.size), fun k o hk _ _ => (hb4.block _ (block_lt hk)).trans hk⟩);have hor2 : (y ||| x <<< pl) < 256 := Nat.or_lt_two_pow (n := 8) hby hshl;obtain ⟨z, hz⟩ : ∃ z, z = y ||| x <<< pl := ⟨_, rfl⟩;rw [<- hz] at hor2 ⊢;have HZ := hd_ hz;clear hz;have fb := frozen_of_row w4 _ q _ _ hcur4;have kb := (cell_of_row w4 _ q _ _ (0, 0) hcur4).trans HCK.out;have H5 : Hid ((w4.setCell ⟨b2, q, none⟩ (.int .u8 (z : Nat))).heap[g]? = some (.cells #[.slice (some ⟨b2, 0, none⟩) (q + 1) cp2, .int .i64 (L.length : Nat), .bool true, bt.pv true] 180 (0, 0))) := hd_ ((Below.heap_setCell _ _ _ _ (Ne.symm NB)).trans H4.out);have k1 := (cr_ _ 1 H5.out (Value.int .i64 (L.length : Nat)) rfl);have f1 := frozen_of_row _ _ 1 _ _ H5.out;rw [HN.out] at k1;clear hb4;have O5 := hd_ (own_put (k := q) (z : Nat) O4.out (by omega));go_wp2_with fail
 refine bodyPost_end (results_none rfl _ _ _) rfl ?_;have H6 := heap_setCell_same _ g 1 _ _ (.int .i64 ((n : Int) + 1)) H5.out;have hll : (L ++ [decide (x = 1)]).length = n + 1 := by rw [List.length_append, List.length_singleton, HN.out]
 refine ⟨rfl, .slice (some ⟨b2, 0, none⟩) (q + 1) cp2, ⟨HH.out.lies, ?_, ?_⟩, ?_⟩
 rotate_left
 ·have h8 : (n + 1 + 7) / 8 = q + 1 := by have := HQ.out; omega
  rw [hll, h8, HL.out];have hzz : ((y ||| (if decide (x = 1) = true then 1 else 0) <<< pl : Nat) : Int) = (z : Nat) := by
   rw [HZ.out];have : (if decide (x = 1) = true then 1 else 0) = x := by
    by_cases h1 : x = 1
    ·subst h1; rfl
    ·have : x = 0 := by omega
     subst this; rfl
   rw [this]
  rw [hzz];exact ownsRow_setCell_other O5.out (a := ⟨g, 1, none⟩) (by intro e; exact NB (Option.some.inj e)) _
 ·refine F4.out.trans (bt.Fr.setCell (bt.fr_grown O4.out ?_ ?_) HH.out.lies ⟨g, 1, none⟩ rfl _)
  ·exact Nat.le_trans hb F4.out.below.size
  ·exact grownBy_setCell3 w4 b2 q _
 ·rw [hll]
  exact H6
theorem one_new_false {base g : Nat} {w : World} {L : List Bool} {v : Value} (h : bt.Wr base w g false L v) (hb : base <= w.heap.size) (x : Nat) (hx : x <= 1) (hL : L.length <= 1099511627776) (h0 : L.length % 8 = 0) :
  Calls Tryz.prog 99 #[.pointer (some ⟨g, 0, none⟩), .int .u8 x] w fun e w' => e = .returned (.tuple #[]) /\ ∃ v', bt.Wr base w' g false (L ++ [decide (x = 1)]) v' /\ bt.Fr base g w w' := by
 have c0 := (cell_of_row w _ 0 _ _ (0, 0) h.head).trans rfl;have c1 := (cell_of_row w _ 1 _ _ (0, 0) h.head).trans rfl;obtain ⟨n, hn⟩ : ∃ n, L.length = n := ⟨_, rfl⟩;rw [hn] at c1 h0 hL;have HN := hd_ hn;have m0 : (n : Int) % 8 = 0 := by omega
 obtain ⟨q, hq⟩ : ∃ q, q = n / 8 := ⟨_, rfl⟩;have hl8 : (n + 7) / 8 = q := by omega
 have HROW := h.row;rw [hn, hl8] at HROW;have HR := hd_ (HROW.alloc (.cells #[.int .u8 0] 5));have S0 := hd_ (sl_bytes w [0] 5 (0, 0) _ rfl (by decide) (wf_of_bytes (by intro z hz; simp at hz; omega)));have SZ : base <= (w.alloc (.cells #[.int .u8 0] 5)).heap.size := by simp; omega
 have HD := hd_ ((Below.heap_alloc w (.cells #[.int .u8 0] 5) _ (block_lt h.head)).trans h.head);have HF := hd_ (World.grownBy_alloc w (.cells #[.int .u8 0] 5) v.ownBlock);have HH := hd_ h;have HQ := hd_ hq;clear h HROW hl8 hq;go_enter Tryz.func99, Tryz.ntmps99
 have NG : Hid (some g ≠ v.ownBlock) := hd_ (by
  rcases rows_or HH.out.row with e | ⟨g', cur, e, h2⟩
  ·rw [e]; simp
  ·rw [e]
   intro e2;cases e2;rw [HH.out.head] at h2;cases h2)
 go_wp2_with (at_builtin; go_must (refine wpList_of_append rfl (.tmp 14) (.tmp 15) 22 22 rfl (run_append_sl_at _ _ base v q (bt.bytes false L) HR.out ⟨w.heap.size, 0, none⟩ 1 1 [0] S0.out (by have := HQ.out; omega) SZ) ?_; rintro v2 w2 ⟨⟨ho2, hg2⟩, hv2⟩; obtain ⟨b2, cp2, rfl, hc2⟩ := own_form ho2 (by omega); have HO2 := hd_ ho2; have HG2 := hd_ (HF.out.trans hg2); have HD2 := hd_ ((hg2.block _ (block_lt HD.out) NG.out).trans HD.out); clear ho2 hg2 hv2; have e0 := (cell_of_row w2 _ 0 _ _ (0, 0) HD2.out).trans rfl; have f0 := frozen_of_row w2 _ 0 _ _ HD2.out))
 have H3 : Hid ((w2.setCell ⟨g, 0, none⟩ (.slice (some ⟨b2, 0, none⟩) (q + 1) cp2)).heap[g]? = some (.cells #[.slice (some ⟨b2, 0, none⟩) (q + 1) cp2, .int .i64 (L.length : Nat), .bool false, bt.pv false] 180 (0, 0))) := hd_ (heap_setCell_same w2 g 0 _ _ (.slice (some ⟨b2, 0, none⟩) (q + 1) cp2) HD2.out);have NB : b2 ≠ g := row_ne HO2.out HD2.out (by decide);have O3 := hd_ (ownsRow_setCell_other HO2.out (a := ⟨g, 0, none⟩) (by intro e; exact NB (Option.some.inj e)) (.slice (some ⟨b2, 0, none⟩) (q + 1) cp2));have F3 := hd_ ((HH.out.fr_grown hb HG2.out).setCell HH.out.lies ⟨g, 0, none⟩ rfl (.slice (some ⟨b2, 0, none⟩) (q + 1) cp2));have HL : Hid (bt.bytes false (L ++ [decide (x = 1)]) = (bt.bytes false L ++ [0]).set q ((bt.byteOf false L q ||| (if decide (x = 1) = true then 1 else 0) <<< bt.place false n : Nat) : Int)) := hd_ (by rw [bt.bytes_snoc, hn, if_pos h0, <- HQ.out]);have HG : Hid ((bt.bytes false L ++ [0]).getD q 0 = ((bt.byteOf false L q : Nat) : Int)) := hd_ (by
  have h8 : (bt.bytes false L).length = q := by rw [bt.bytes_length, hn]; have := HQ.out; omega
  rw [<- h8, List.getD_eq_getElem?_getD, List.getElem?_append_right (Nat.le_refl _), Nat.sub_self, h8, bt.byteOf_none false L (by have := HQ.out; omega)];rfl)
 have HC2 := hd_ hc2;clear e0 f0 HO2 HD2 HG2 HR S0 HD HF m0 SZ hc2;generalize w2.setCell ⟨g, 0, none⟩ (.slice (some ⟨b2, 0, none⟩) (q + 1) cp2) = w3 at *;obtain ⟨BL, hBL⟩ : ∃ BL, BL = bt.bytes false L ++ [0] := ⟨_, rfl⟩;rw [<- hBL] at O3 HL HG;obtain ⟨cur, hcur, hck, hcs, _⟩ := own_cur O3.out (k := q) (by omega);rw [HG.out] at hck;have hby := bt.byteOf_lt false L q;obtain ⟨y, hy⟩ : ∃ y, y = bt.byteOf false L q := ⟨_, rfl⟩;have HY := hd_ hy;rw [<- hy] at hck HL hby;have hplt := bt.place_lt false n;have CN := hd_ (low_grown n w3 (by omega));obtain ⟨pl, hpl⟩ : ∃ pl, pl = bt.place false n := ⟨_, rfl⟩;rw [<- hpl] at CN HL hplt;have HPL := hd_ hpl;have hshl : x <<< pl < 256 := by
  rw [Nat.shiftLeft_eq];have h2 : 2 ^ pl <= 2 ^ 7 := Nat.pow_le_pow_right (by decide) (by omega);have h3 : x * 2 ^ pl <= 1 * 2 ^ 7 := Nat.mul_le_mul hx h2;omega
 have g0 := cell_regrown ((cr_ w3 0 H3.out (Value.slice (some ⟨b2, 0, none⟩) (q + 1) cp2) rfl));have g1 := cell_regrown ((cr_ w3 1 H3.out (Value.int .i64 (L.length : Nat)) rfl));have g3 := cell_regrown ((cr_ w3 3 H3.out (Value.func (.func 132) #[] #[]) rfl));rw [HN.out] at g1;have gb := cell_regrown ((cell_of_row w3 _ q _ _ (0, 0) hcur).trans hck);have d8 : (n : Int) / 8 = (q : Nat) := by have := HQ.out; omega
 have u1 : q < q + 1 := by omega
 have HCK := hd_ hck;clear hy hpl hck;refine wp_region_quiet_tail 23 (by kernel_rfl) (by kernel_rfl) ?_;simp only [List.take_succ_cons, List.take_zero, List.drop_succ_cons, List.drop_zero]
 repeat (go_big_quiet_step (exact CN.out _ _))
 have hor : bits .or .u8 (y : Int) ((x : Int) * 2 ^ pl % 256) = ((y ||| x <<< pl : Nat) : Int) := by
  have h1 : ((x : Int) * 2 ^ pl % 256) = ((x <<< pl : Nat) : Int) := by
   obtain ⟨u, hu⟩ : ∃ u, u = x <<< pl := ⟨_, rfl⟩;rw [<- hu] at hshl ⊢;rw [<- Int.emod_eq_of_lt (a := (u : Int)) (b := 256) (by omega) (by omega), hu, Nat.shiftLeft_eq];simp
  rw [h1];exact u8_or_nat _ _ hby hshl
 rw [hor];refine wpQuiet_nil ?_;intro _ hw';obtain ⟨⟨dq, osq⟩, hw''⟩ := hw';subst hw'';have hb4 := below_regrown w3 dq osq;clear g0 g1 g3 gb d8 hor;generalize grow (redrawn w3 dq) osq = w4 at *;have H4 := hd_ ((hb4.block _ (block_lt H3.out)).trans H3.out);have hcur4 := (hb4.block _ (block_lt hcur)).trans hcur;have O4 := hd_ (ownsRow_below O3.out hb4);have F4 := hd_ (F3.out.trans ⟨hb4.mono (Nat.le_trans hb F3.out.below.size), fun k o hk _ _ => (hb4.block _ (block_lt hk)).trans hk⟩);have hor2 : (y ||| x <<< pl) < 256 := Nat.or_lt_two_pow (n := 8) hby hshl;obtain ⟨z, hz⟩ : ∃ z, z = y ||| x <<< pl := ⟨_, rfl⟩;rw [<- hz] at hor2 ⊢;have HZ := hd_ hz;clear hz;have fb := frozen_of_row w4 _ q _ _ hcur4;have kb := (cell_of_row w4 _ q _ _ (0, 0) hcur4).trans HCK.out;have H5 : Hid ((w4.setCell ⟨b2, q, none⟩ (.int .u8 (z : Nat))).heap[g]? = some (.cells #[.slice (some ⟨b2, 0, none⟩) (q + 1) cp2, .int .i64 (L.length : Nat), .bool false, bt.pv false] 180 (0, 0))) := hd_ ((Below.heap_setCell _ _ _ _ (Ne.symm NB)).trans H4.out);have k1 := (cr_ _ 1 H5.out (Value.int .i64 (L.length : Nat)) rfl);have f1 := frozen_of_row _ _ 1 _ _ H5.out;rw [HN.out] at k1;clear hb4;have O5 := hd_ (own_put (k := q) (z : Nat) O4.out (by omega));go_wp2_with fail
 refine bodyPost_end (results_none rfl _ _ _) rfl ?_;have H6 := heap_setCell_same _ g 1 _ _ (.int .i64 ((n : Int) + 1)) H5.out;have hll : (L ++ [decide (x = 1)]).length = n + 1 := by rw [List.length_append, List.length_singleton, HN.out]
 refine ⟨rfl, .slice (some ⟨b2, 0, none⟩) (q + 1) cp2, ⟨HH.out.lies, ?_, ?_⟩, ?_⟩
 rotate_left
 ·have h8 : (n + 1 + 7) / 8 = q + 1 := by have := HQ.out; omega
  rw [hll, h8, HL.out];have hzz : ((y ||| (if decide (x = 1) = true then 1 else 0) <<< pl : Nat) : Int) = (z : Nat) := by
   rw [HZ.out];have : (if decide (x = 1) = true then 1 else 0) = x := by
    by_cases h1 : x = 1
    ·subst h1; rfl
    ·have : x = 0 := by omega
     subst this; rfl
   rw [this]
  rw [hzz];exact ownsRow_setCell_other O5.out (a := ⟨g, 1, none⟩) (by intro e; exact NB (Option.some.inj e)) _
 ·refine F4.out.trans (bt.Fr.setCell (bt.fr_grown O4.out ?_ ?_) HH.out.lies ⟨g, 1, none⟩ rfl _)
  ·exact Nat.le_trans hb F4.out.below.size
  ·exact grownBy_setCell3 w4 b2 q _
 ·rw [hll]
  exact H6
theorem one_old_true {base g : Nat} {w : World} {L : List Bool} {v : Value} (h : bt.Wr base w g true L v) (hb : base <= w.heap.size) (x : Nat) (hx : x <= 1) (hL : L.length <= 1099511627776) (h0 : ¬ L.length % 8 = 0) :
  Calls Tryz.prog 99 #[.pointer (some ⟨g, 0, none⟩), .int .u8 x] w fun e w' => e = .returned (.tuple #[]) /\ ∃ v', bt.Wr base w' g true (L ++ [decide (x = 1)]) v' /\ bt.Fr base g w w' := by
 have c0 := (cell_of_row w _ 0 _ _ (0, 0) h.head).trans rfl;have c1 := (cell_of_row w _ 1 _ _ (0, 0) h.head).trans rfl;obtain ⟨n, hn⟩ : ∃ n, L.length = n := ⟨_, rfl⟩;rw [hn] at c1 h0 hL;have HN := hd_ hn;have m0 : ¬ (n : Int) % 8 = 0 := by omega
 obtain ⟨q, hq⟩ : ∃ q, q = n / 8 := ⟨_, rfl⟩;have hl8 : (n + 7) / 8 = q + 1 := by omega
 have HROW := h.row;rw [hn, hl8] at HROW;obtain ⟨b2, cp2, rfl, hc2⟩ := own_form HROW (by omega);have H3 := hd_ h.head;have NB : b2 ≠ g := row_ne HROW h.head (by decide);have O3 := hd_ HROW;have F3 := hd_ (bt.Fr.refl base g w);have HL : Hid (bt.bytes true (L ++ [decide (x = 1)]) = (bt.bytes true L).set q ((bt.byteOf true L q ||| (if decide (x = 1) = true then 1 else 0) <<< bt.place true n : Nat) : Int)) := hd_ (by rw [bt.bytes_snoc, hn, if_neg (by omega), <- hq]);have HG : Hid ((bt.bytes true L).getD q 0 = ((bt.byteOf true L q : Nat) : Int)) := hd_ (bt.bytes_getD _ _ (by omega));have HC2 := hd_ hc2;have HH := hd_ h;have HQ := hd_ hq;clear h HROW hl8 hc2 hq;go_enter Tryz.func99, Tryz.ntmps99
 go_wp2_with fail
 obtain ⟨w3, hw3⟩ : ∃ w3, w3 = w := ⟨_, rfl⟩;obtain ⟨BL, hBL⟩ : ∃ BL, BL = bt.bytes true L := ⟨_, rfl⟩;rw [<- hBL] at O3 HL HG;clear c0;obtain ⟨cur, hcur, hck, hcs, _⟩ := own_cur O3.out (k := q) (by omega);rw [HG.out] at hck;have hby := bt.byteOf_lt true L q;obtain ⟨y, hy⟩ : ∃ y, y = bt.byteOf true L q := ⟨_, rfl⟩;have HY := hd_ hy;rw [<- hy] at hck HL hby;have hplt := bt.place_lt true n;have CN := hd_ (high_grown n w (by omega));obtain ⟨pl, hpl⟩ : ∃ pl, pl = bt.place true n := ⟨_, rfl⟩;rw [<- hpl] at CN HL hplt;have HPL := hd_ hpl;have hshl : x <<< pl < 256 := by
  rw [Nat.shiftLeft_eq];have h2 : 2 ^ pl <= 2 ^ 7 := Nat.pow_le_pow_right (by decide) (by omega);have h3 : x * 2 ^ pl <= 1 * 2 ^ 7 := Nat.mul_le_mul hx h2;omega
 have g0 := cell_regrown ((cr_ w 0 H3.out (Value.slice (some ⟨b2, 0, none⟩) (q + 1) cp2) rfl));have g1 := cell_regrown ((cr_ w 1 H3.out (Value.int .i64 (L.length : Nat)) rfl));have g3 := cell_regrown ((cr_ w 3 H3.out (Value.func (.func 131) #[] #[]) rfl));rw [HN.out] at g1;have gb := cell_regrown ((cell_of_row w _ q _ _ (0, 0) hcur).trans hck);have d8 : (n : Int) / 8 = (q : Nat) := by have := HQ.out; omega
 have u1 : q < q + 1 := by omega
 have HCK := hd_ hck;clear hy hpl hck;refine wp_region_quiet_tail 23 (by kernel_rfl) (by kernel_rfl) ?_;simp only [List.take_succ_cons, List.take_zero, List.drop_succ_cons, List.drop_zero]
 repeat (go_big_quiet_step (exact CN.out _ _))
 have hor : bits .or .u8 (y : Int) ((x : Int) * 2 ^ pl % 256) = ((y ||| x <<< pl : Nat) : Int) := by
  have h1 : ((x : Int) * 2 ^ pl % 256) = ((x <<< pl : Nat) : Int) := by
   obtain ⟨u, hu⟩ : ∃ u, u = x <<< pl := ⟨_, rfl⟩;rw [<- hu] at hshl ⊢;rw [<- Int.emod_eq_of_lt (a := (u : Int)) (b := 256) (by omega) (by omega), hu, Nat.shiftLeft_eq];simp
  rw [h1];exact u8_or_nat _ _ hby hshl
 rw [hor];refine wpQuiet_nil ?_;intro _ hw';obtain ⟨⟨dq, osq⟩, hw''⟩ := hw';subst hw'';have hb4 := below_regrown w dq osq;clear g0 g1 g3 gb d8 hor;generalize grow (redrawn w dq) osq = w4 at *;have H4 := hd_ ((hb4.block _ (block_lt H3.out)).trans H3.out);have hcur4 := (hb4.block _ (block_lt hcur)).trans hcur;have O4 := hd_ (ownsRow_below O3.out hb4);have F4 := hd_ (F3.out.trans ⟨hb4.mono (Nat.le_trans hb F3.out.below.size), fun k o hk _ _ => (hb4.block _ (block_lt hk)).trans hk⟩);have hor2 : (y ||| x <<< pl) < 256 := Nat.or_lt_two_pow (n := 8) hby hshl;obtain ⟨z, hz⟩ : ∃ z, z = y ||| x <<< pl := ⟨_, rfl⟩;rw [<- hz] at hor2 ⊢;have HZ := hd_ hz;clear hz;have fb := frozen_of_row w4 _ q _ _ hcur4;have kb := (cell_of_row w4 _ q _ _ (0, 0) hcur4).trans HCK.out;have H5 : Hid ((w4.setCell ⟨b2, q, none⟩ (.int .u8 (z : Nat))).heap[g]? = some (.cells #[.slice (some ⟨b2, 0, none⟩) (q + 1) cp2, .int .i64 (L.length : Nat), .bool true, bt.pv true] 180 (0, 0))) := hd_ ((Below.heap_setCell _ _ _ _ (Ne.symm NB)).trans H4.out);have k1 := (cr_ _ 1 H5.out (Value.int .i64 (L.length : Nat)) rfl);have f1 := frozen_of_row _ _ 1 _ _ H5.out;rw [HN.out] at k1;clear hb4;have O5 := hd_ (own_put (k := q) (z : Nat) O4.out (by omega));go_wp2_with fail
 refine bodyPost_end (results_none rfl _ _ _) rfl ?_;have H6 := heap_setCell_same _ g 1 _ _ (.int .i64 ((n : Int) + 1)) H5.out;have hll : (L ++ [decide (x = 1)]).length = n + 1 := by rw [List.length_append, List.length_singleton, HN.out]
 refine ⟨rfl, .slice (some ⟨b2, 0, none⟩) (q + 1) cp2, ⟨HH.out.lies, ?_, ?_⟩, ?_⟩
 rotate_left
 ·have h8 : (n + 1 + 7) / 8 = q + 1 := by have := HQ.out; omega
  rw [hll, h8, HL.out];have hzz : ((y ||| (if decide (x = 1) = true then 1 else 0) <<< pl : Nat) : Int) = (z : Nat) := by
   rw [HZ.out];have : (if decide (x = 1) = true then 1 else 0) = x := by
    by_cases h1 : x = 1
    ·subst h1; rfl
    ·have : x = 0 := by omega
     subst this; rfl
   rw [this]
  rw [hzz];exact ownsRow_setCell_other O5.out (a := ⟨g, 1, none⟩) (by intro e; exact NB (Option.some.inj e)) _
 ·refine F4.out.trans (bt.Fr.setCell (bt.fr_grown O4.out ?_ ?_) HH.out.lies ⟨g, 1, none⟩ rfl _)
  ·exact Nat.le_trans hb F4.out.below.size
  ·exact grownBy_setCell3 w4 b2 q _
 ·rw [hll]
  exact H6
theorem one_old_false {base g : Nat} {w : World} {L : List Bool} {v : Value} (h : bt.Wr base w g false L v) (hb : base <= w.heap.size) (x : Nat) (hx : x <= 1) (hL : L.length <= 1099511627776) (h0 : ¬ L.length % 8 = 0) :
  Calls Tryz.prog 99 #[.pointer (some ⟨g, 0, none⟩), .int .u8 x] w fun e w' => e = .returned (.tuple #[]) /\ ∃ v', bt.Wr base w' g false (L ++ [decide (x = 1)]) v' /\ bt.Fr base g w w' := by
 have c0 := (cell_of_row w _ 0 _ _ (0, 0) h.head).trans rfl;have c1 := (cell_of_row w _ 1 _ _ (0, 0) h.head).trans rfl;obtain ⟨n, hn⟩ : ∃ n, L.length = n := ⟨_, rfl⟩;rw [hn] at c1 h0 hL;have HN := hd_ hn;have m0 : ¬ (n : Int) % 8 = 0 := by omega
 obtain ⟨q, hq⟩ : ∃ q, q = n / 8 := ⟨_, rfl⟩;have hl8 : (n + 7) / 8 = q + 1 := by omega
 have HROW := h.row;rw [hn, hl8] at HROW;obtain ⟨b2, cp2, rfl, hc2⟩ := own_form HROW (by omega);have H3 := hd_ h.head;have NB : b2 ≠ g := row_ne HROW h.head (by decide);have O3 := hd_ HROW;have F3 := hd_ (bt.Fr.refl base g w);have HL : Hid (bt.bytes false (L ++ [decide (x = 1)]) = (bt.bytes false L).set q ((bt.byteOf false L q ||| (if decide (x = 1) = true then 1 else 0) <<< bt.place false n : Nat) : Int)) := hd_ (by rw [bt.bytes_snoc, hn, if_neg (by omega), <- hq]);have HG : Hid ((bt.bytes false L).getD q 0 = ((bt.byteOf false L q : Nat) : Int)) := hd_ (bt.bytes_getD _ _ (by omega));have HC2 := hd_ hc2;have HH := hd_ h;have HQ := hd_ hq;clear h HROW hl8 hc2 hq;go_enter Tryz.func99, Tryz.ntmps99
 go_wp2_with fail
 obtain ⟨w3, hw3⟩ : ∃ w3, w3 = w := ⟨_, rfl⟩;obtain ⟨BL, hBL⟩ : ∃ BL, BL = bt.bytes false L := ⟨_, rfl⟩;rw [<- hBL] at O3 HL HG;clear c0;obtain ⟨cur, hcur, hck, hcs, _⟩ := own_cur O3.out (k := q) (by omega);rw [HG.out] at hck;have hby := bt.byteOf_lt false L q;obtain ⟨y, hy⟩ : ∃ y, y = bt.byteOf false L q := ⟨_, rfl⟩;have HY := hd_ hy;rw [<- hy] at hck HL hby;have hplt := bt.place_lt false n;have CN := hd_ (low_grown n w (by omega));obtain ⟨pl, hpl⟩ : ∃ pl, pl = bt.place false n := ⟨_, rfl⟩;rw [<- hpl] at CN HL hplt;have HPL := hd_ hpl;have hshl : x <<< pl < 256 := by
  rw [Nat.shiftLeft_eq];have h2 : 2 ^ pl <= 2 ^ 7 := Nat.pow_le_pow_right (by decide) (by omega);have h3 : x * 2 ^ pl <= 1 * 2 ^ 7 := Nat.mul_le_mul hx h2;omega
 have g0 := cell_regrown ((cr_ w 0 H3.out (Value.slice (some ⟨b2, 0, none⟩) (q + 1) cp2) rfl));have g1 := cell_regrown ((cr_ w 1 H3.out (Value.int .i64 (L.length : Nat)) rfl));have g3 := cell_regrown ((cr_ w 3 H3.out (Value.func (.func 132) #[] #[]) rfl));rw [HN.out] at g1;have gb := cell_regrown ((cell_of_row w _ q _ _ (0, 0) hcur).trans hck);have d8 : (n : Int) / 8 = (q : Nat) := by have := HQ.out; omega
 have u1 : q < q + 1 := by omega
 have HCK := hd_ hck;clear hy hpl hck;refine wp_region_quiet_tail 23 (by kernel_rfl) (by kernel_rfl) ?_;simp only [List.take_succ_cons, List.take_zero, List.drop_succ_cons, List.drop_zero]
 repeat (go_big_quiet_step (exact CN.out _ _))
 have hor : bits .or .u8 (y : Int) ((x : Int) * 2 ^ pl % 256) = ((y ||| x <<< pl : Nat) : Int) := by
  have h1 : ((x : Int) * 2 ^ pl % 256) = ((x <<< pl : Nat) : Int) := by
   obtain ⟨u, hu⟩ : ∃ u, u = x <<< pl := ⟨_, rfl⟩;rw [<- hu] at hshl ⊢;rw [<- Int.emod_eq_of_lt (a := (u : Int)) (b := 256) (by omega) (by omega), hu, Nat.shiftLeft_eq];simp
  rw [h1];exact u8_or_nat _ _ hby hshl
 rw [hor];refine wpQuiet_nil ?_;intro _ hw';obtain ⟨⟨dq, osq⟩, hw''⟩ := hw';subst hw'';have hb4 := below_regrown w dq osq;clear g0 g1 g3 gb d8 hor;generalize grow (redrawn w dq) osq = w4 at *;have H4 := hd_ ((hb4.block _ (block_lt H3.out)).trans H3.out);have hcur4 := (hb4.block _ (block_lt hcur)).trans hcur;have O4 := hd_ (ownsRow_below O3.out hb4);have F4 := hd_ (F3.out.trans ⟨hb4.mono (Nat.le_trans hb F3.out.below.size), fun k o hk _ _ => (hb4.block _ (block_lt hk)).trans hk⟩);have hor2 : (y ||| x <<< pl) < 256 := Nat.or_lt_two_pow (n := 8) hby hshl;obtain ⟨z, hz⟩ : ∃ z, z = y ||| x <<< pl := ⟨_, rfl⟩;rw [<- hz] at hor2 ⊢;have HZ := hd_ hz;clear hz;have fb := frozen_of_row w4 _ q _ _ hcur4;have kb := (cell_of_row w4 _ q _ _ (0, 0) hcur4).trans HCK.out;have H5 : Hid ((w4.setCell ⟨b2, q, none⟩ (.int .u8 (z : Nat))).heap[g]? = some (.cells #[.slice (some ⟨b2, 0, none⟩) (q + 1) cp2, .int .i64 (L.length : Nat), .bool false, bt.pv false] 180 (0, 0))) := hd_ ((Below.heap_setCell _ _ _ _ (Ne.symm NB)).trans H4.out);have k1 := (cr_ _ 1 H5.out (Value.int .i64 (L.length : Nat)) rfl);have f1 := frozen_of_row _ _ 1 _ _ H5.out;rw [HN.out] at k1;clear hb4;have O5 := hd_ (own_put (k := q) (z : Nat) O4.out (by omega));go_wp2_with fail
 refine bodyPost_end (results_none rfl _ _ _) rfl ?_;have H6 := heap_setCell_same _ g 1 _ _ (.int .i64 ((n : Int) + 1)) H5.out;have hll : (L ++ [decide (x = 1)]).length = n + 1 := by rw [List.length_append, List.length_singleton, HN.out]
 refine ⟨rfl, .slice (some ⟨b2, 0, none⟩) (q + 1) cp2, ⟨HH.out.lies, ?_, ?_⟩, ?_⟩
 rotate_left
 ·have h8 : (n + 1 + 7) / 8 = q + 1 := by have := HQ.out; omega
  rw [hll, h8, HL.out];have hzz : ((y ||| (if decide (x = 1) = true then 1 else 0) <<< pl : Nat) : Int) = (z : Nat) := by
   rw [HZ.out];have : (if decide (x = 1) = true then 1 else 0) = x := by
    by_cases h1 : x = 1
    ·subst h1; rfl
    ·have : x = 0 := by omega
     subst this; rfl
   rw [this]
  rw [hzz];exact ownsRow_setCell_other O5.out (a := ⟨g, 1, none⟩) (by intro e; exact NB (Option.some.inj e)) _
 ·refine F4.out.trans (bt.Fr.setCell (bt.fr_grown O4.out ?_ ?_) HH.out.lies ⟨g, 1, none⟩ rfl _)
  ·exact Nat.le_trans hb F4.out.below.size
  ·exact grownBy_setCell3 w4 b2 q _
 ·rw [hll]
  exact H6
theorem one_any {base g : Nat} {w : World} {up : Bool} {L : List Bool} {v : Value} (h : bt.Wr base w g up L v) (hb : base <= w.heap.size) (x : Nat) (hx : x <= 1) (hL : L.length <= 1099511627776) :
  Calls Tryz.prog 99 #[.pointer (some ⟨g, 0, none⟩), .int .u8 x] w fun e w' => e = .returned (.tuple #[]) /\ ∃ v', bt.Wr base w' g up (L ++ [decide (x = 1)]) v' /\ bt.Fr base g w w' := by
 cases up
 ·by_cases h0 : L.length % 8 = 0
  ·exact one_new_false h hb x hx hL h0
  ·exact one_old_false h hb x hx hL h0
 ·by_cases h0 : L.length % 8 = 0
  ·exact one_new_true h hb x hx hL h0
  ·exact one_old_true h hb x hx hL h0
end Go.Proofs.YthpckmcgbmfmcaaGreatDoor
