/- The reference's One, where it answers a colour. -/
import Derived.Test.YtdemndjenlhahaaApply
import Derived.Test.YtdemndjenlhahaaPt6
import Derived.Test.YtdemndjenlhahaaTwice0
import Derived.Test.YtdemndjenlhahaaRefO5
import Derived.Test.YtdemndjenlhahaaPt14
import Derived.Test.YtdemndjenlhahaaOpLaid2
namespace Go.Proofs.Ytdemndjenlhahaa
open Go.RowKit Go.Sort

set_option maxRecDepth 100000 in
set_option maxHeartbeats 3200000 in
theorem refpixel_any (H : Int) (wn x y : Nat) (q : Option Addr) (m mcap : Nat) (l : List Int) (w : World) (hM : Sl .u16 w q m mcap l) (hk : 4 * (y * wn + x) + 3 < m) (hm : m ≤ 262144) :
    Calls Try.prog 29 #[.agg #[.int .i64 (wn : Int), .int .i64 H, .slice q m mcap], .int .i64 (x : Int), .int .i64 (y : Int)] w fun e w' => e = .returned (pix l (y * wn + x)).val ∧ Below w.heap.size w w' := by
  obtain ⟨qb, qo, rfl, hcell⟩ := hM.cells (by omega)
  obtain ⟨k, hk'⟩ : ∃ k, y * wn + x = k := ⟨_, rfl⟩
  rw [hk'] at hk ⊢
  have c0 := hcell (4 * k) (by omega)
  have c1 := hcell (4 * k + 1) (by omega)
  have c2 := hcell (4 * k + 2) (by omega)
  have c3 := hcell (4 * k + 3) (by omega)
  have HP : Hid ((pix l k).val = .agg #[.int .u16 (l.getD (4 * k) 0), .int .u16 (l.getD (4 * k + 1) 0), .int .u16 (l.getD (4 * k + 2) 0), .int .u16 (l.getD (4 * k + 3) 0)]) := Lib.hid rfl
  have hkb : k < 65536 := by omega
  have hyw : y * wn ≤ 65536 := by omega
  have hyz : ((y * wn : Nat) : Int) = (y : Int) * (wn : Int) := Int.natCast_mul _ _
  have W1 : 0 ≤ (y : Int) * (wn : Int) := by omega
  have W2 : (y : Int) * (wn : Int) ≤ 65536 := by omega
  have hx6 : x ≤ 65536 := by omega
  have hke : 4 * ((y : Int) * (wn : Int) + (x : Int)) = ((4 * k : Nat) : Int) := by omega
  have B0 := Lib.hid (((Below.refl w.heap.size w).alloc (Nat.le_refl _) (.cells #[.int .i64 (wn : Int), .int .i64 H, .slice (some ⟨qb, qo, none⟩) m mcap] 41)).alloc (by simp) (.cells #[.int .u16 0, .int .u16 0, .int .u16 0, .int .u16 0] 33))
  obtain ⟨q0, q1⟩ := heap2 w (.cells #[.int .i64 (wn : Int), .int .i64 H, .slice (some ⟨qb, qo, none⟩) m mcap] 41) (.cells #[.int .u16 0, .int .u16 0, .int .u16 0, .int .u16 0] 33)
  have Q0 := Lib.hid q0
  have Q1 := Lib.hid q1
  have HC := Lib.hid (And.intro c0 (And.intro c1 (And.intro c2 c3)))
  clear hcell hM hk' hyz hyw q0 q1 c0 c1 c2 c3
  obtain ⟨k4, hk4⟩ : ∃ k4, 4 * k = k4 := ⟨_, rfl⟩
  rw [hk4] at hke HC HP hk
  have hk4b : k4 < 262144 := by omega
  have HKE := Lib.hid hke
  clear hk4 hkb hke
  go_enter Try.func29, Try.ntmps29
  go_wp2_with fail
  generalize (w.alloc (.cells #[.int .i64 (wn : Int), .int .i64 H, .slice (some ⟨qb, qo, none⟩) m mcap] 41)).alloc (.cells #[.int .u16 0, .int .u16 0, .int .u16 0, .int .u16 0] 33) = w1 at *
  rw [HKE.out]
  clear W1 W2
  have m2 := cell_regrown ((cell_of_row w1 _ 2 _ _ (0, 0) Q0.out).trans rfl)
  have a0 := cell_regrown (keep_cell B0.out HC.out.1)
  have a1 := cell_regrown (keep_cell B0.out HC.out.2.1)
  have a2 := cell_regrown (keep_cell B0.out HC.out.2.2.1)
  have a3 := cell_regrown (keep_cell B0.out HC.out.2.2.2)
  have V1 : IntKind.i64.wrap ((k4 : Int) + 1) = ((k4 + 1 : Nat) : Int) := (IntWalk.i64_in _ (by omega)).trans (by omega)
  have V2 : IntKind.i64.wrap ((k4 : Int) + 2) = ((k4 + 2 : Nat) : Int) := (IntWalk.i64_in _ (by omega)).trans (by omega)
  have V3 : IntKind.i64.wrap ((k4 : Int) + 3) = ((k4 + 3 : Nat) : Int) := (IntWalk.i64_in _ (by omega)).trans (by omega)
  have u0 : (0 : Int) ≤ (k4 : Int) := by omega
  have u1 : (k4 : Int) < (m : Int) := by omega
  have u2 : k4 + 1 < m := by omega
  have u3 : k4 + 2 < m := by omega
  have u4 : k4 + 3 < m := by omega
  refine wp_region_quiet_tail 24 (by kernel_rfl) (by kernel_rfl) ?_
  simp only [List.take_succ_cons, List.take_zero, List.drop_succ_cons, List.drop_zero]
  repeat (go_big_quiet_step (fail))
  refine wpQuiet_nil ?_
  intro _ hw'
  obtain ⟨⟨dq, osq⟩, hw''⟩ := hw'
  subst hw''
  have hb := below_regrown w1 dq osq
  clear a0 a1 a2 a3 m2 V1 V2 V3 u0 u1 u2 u3 u4
  generalize grow (redrawn w1 dq) osq = w4 at *
  have R4 := Lib.hid ((hb.block _ (block_lt Q1.out)).trans Q1.out)
  have HB4 := Lib.hid (B0.out.trans (hb.mono B0.out.size))
  clear hb
  refine wpList_store_row rfl 33 _ _ rfl (w.heap.size + 1) _ rfl rfl 33 _ R4.out (colSize4 _ _ _ _) (colSz _ _ _ _ _ _ _ _) (colOne _ _ _ _) ?_
  go_wp2_with fail
  exact bodyPost_ret (results_cell_row (p := 6) (ty := 33) rfl _ _ (w.heap.size + 1) 33 _ (0, 0) _ rfl (setRow_heap _ _ _ _ _ _ R4.out) Try.underlying33 rfl colSize) rfl ⟨by rw [HP.out]; rfl, below_setRow HB4.out (by omega) _⟩

theorem grown_join {a b c : World} {row : Option Nat} (h : a.grownBy b row) (k : b.grownBy c row) : a.grownBy c row :=
  ⟨k.os.trans h.os, k.tape.trans h.tape, k.output.trans h.output, Nat.le_trans h.size k.size, fun i hi hne => (k.block i (Nat.lt_of_lt_of_le hi h.size) hne).trans (h.block i hi hne)⟩
theorem grown_new {a b c : World} {row : Option Nat} {r : Nat} (h : a.grownBy b row) (k : b.grownBy c (some r)) (hr : a.heap.size ≤ r) : a.grownBy c row :=
  ⟨k.os.trans h.os, k.tape.trans h.tape, k.output.trans h.output, Nat.le_trans h.size k.size, fun i hi hne => (k.block i (Nat.lt_of_lt_of_le hi h.size) (by intro e; have := Option.some.inj e; omega)).trans (h.block i hi hne)⟩
theorem grown_any {a b : World} {row : Option Nat} (h : a.grownBy b none) : a.grownBy b row := ⟨h.os, h.tape, h.output, h.size, fun i hi _ => h.block i hi (by simp)⟩

def AddPost (base : Nat) (W H : Int) (v : Value) (n : Nat) (xs : List Value) (c : C4) (w : World) (e : Ending) (w' : World) : Prop :=
  ∃ g cap, e = .returned (.agg #[.int .i64 W, .int .i64 H, .slice (some ⟨g, 0, none⟩) (n + 4) cap]) ∧ w'.ownsRow base 31 1 (.slice (some ⟨g, 0, none⟩) (n + 4) cap) (n + 4) (xs ++ c.list.map (Value.int .u16)) ∧ w.grownBy w' v.ownBlock

set_option maxRecDepth 100000 in
set_option maxHeartbeats 3200000 in
theorem refadd_any (base : Nat) (W H : Int) (p : Option Addr) (n cap : Nat) (xs : List Value) (c : C4) (w : World) (hr : w.ownsRow base 31 1 (.slice p n cap) n xs) (hb : base ≤ w.heap.size) (hn : n + 4 ≤ 262144) :
    Calls Try.prog 30 #[.agg #[.int .i64 W, .int .i64 H, .slice p n cap], .agg #[.int .u16 c.r, .int .u16 c.g, .int .u16 c.b, .int .u16 c.a]] w (AddPost base W H (.slice p n cap) n xs c w) := by
  obtain ⟨i0, hi, hz0, hz1, hz2⟩ := info_parts infoU16
  obtain ⟨⟨q0, q1, q2⟩, q3⟩ := heap3' w (.cells #[.int .i64 W, .int .i64 H, .slice p n cap] 41) (.cells #[.int .u16 c.r, .int .u16 c.g, .int .u16 c.b, .int .u16 c.a] 33) (.cells #[.int .i64 0, .int .i64 0, .slice none 0 0] 41)
  have G0 := Lib.hid (grown_join (grown_join (World.grownBy_alloc w (.cells #[.int .i64 W, .int .i64 H, .slice p n cap] 41) (Value.slice p n cap).ownBlock) (World.grownBy_alloc _ (.cells #[.int .u16 c.r, .int .u16 c.g, .int .u16 c.b, .int .u16 c.a] 33) _)) (World.grownBy_alloc _ (.cells #[.int .i64 0, .int .i64 0, .slice none 0 0] 41) _))
  have R0 := Lib.hid (((hr.alloc (.cells #[.int .i64 W, .int .i64 H, .slice p n cap] 41)).alloc (.cells #[.int .u16 c.r, .int .u16 c.g, .int .u16 c.b, .int .u16 c.a] 33)).alloc (.cells #[.int .i64 0, .int .i64 0, .slice none 0 0] 41))
  go_enter Try.func30, Try.ntmps30
  go_upto_region 1 with (fail)
  generalize ((w.alloc (.cells #[.int .i64 W, .int .i64 H, .slice p n cap] 41)).alloc (.cells #[.int .u16 c.r, .int .u16 c.g, .int .u16 c.b, .int .u16 c.a] 33)).alloc (.cells #[.int .i64 0, .int .i64 0, .slice none 0 0] 41) = w0 at *
  have HLT : Hid (∀ b, w.heap.size ≤ b → some b ≠ (Value.slice p n cap).ownBlock) := Lib.hid (fun b hb e => by have := (World.ownsRow.lt hr b e.symm).2; omega)
  have HR := Lib.hid hr
  have co := (cell_of_row w0 _ 2 _ _ (0, 0) q0).trans rfl
  have k0 := (cell_of_row w0 _ 0 _ _ (0, 0) q1).trans rfl
  have k1 := (cell_of_row w0 _ 1 _ _ (0, 0) q1).trans rfl
  have k2 := (cell_of_row w0 _ 2 _ _ (0, 0) q1).trans rfl
  have k3 := (cell_of_row w0 _ 3 _ _ (0, 0) q1).trans rfl
  have P0 := Lib.hid ((Below.heap_alloc w0 (.cells #[.int .u16 c.r, .int .u16 c.g, .int .u16 c.b, .int .u16 c.a] 31) _ (block_lt q0)).trans q0)
  have P2 := Lib.hid ((Below.heap_alloc w0 (.cells #[.int .u16 c.r, .int .u16 c.g, .int .u16 c.b, .int .u16 c.a] 31) _ (block_lt q2)).trans q2)
  have HRU := Lib.hid (R0.out.alloc (.cells #[.int .u16 c.r, .int .u16 c.g, .int .u16 c.b, .int .u16 c.a] 31))
  have G1 := Lib.hid (grown_join G0.out (World.grownBy_alloc w0 (.cells #[.int .u16 c.r, .int .u16 c.g, .int .u16 c.b, .int .u16 c.a] 31) _))
  have HNW := Lib.hid (news_alloc w0 [.int .u16 c.r, .int .u16 c.g, .int .u16 c.b, .int .u16 c.a] 31)
  have SZU : base ≤ (w0.alloc (.cells #[.int .u16 c.r, .int .u16 c.g, .int .u16 c.b, .int .u16 c.a] 31)).heap.size := by simp; omega
  clear q0 q1 q2 q3 hr
  go_wp2_with (first
    | (at_builtin; go_must (refine wpList_append_own _ rfl _ _ 39 rfl base 31 i0 (.int .u16 0) 1 2 Try.underlying39 hi hz0 hz1 hz2 rfl (by decide) (.slice p n cap) n _ rfl HRU.out ⟨w0.heap.size, 0, none⟩ 4 4 [.int .u16 c.r, .int .u16 c.g, .int .u16 c.b, .int .u16 c.a] rfl rfl HNW.out (by simp [Value.oneCell']) (by unfold maxLen; omega) (by omega) SZU ?_; intro v' w2 hown hg hnil; obtain ⟨g', cap', rfl⟩ := row_form hown (fun e => absurd (hnil.1 e).2 (by decide)); have HOWN := Lib.hid hown; have HGR := Lib.hid hg; have D0 := Lib.hid (grown_block hg P0.out (HLT.out _ (Nat.le_refl _))); have D2 := Lib.hid (grown_block (grownBy_setCell3 w2 w.heap.size 2 (.slice (some ⟨g', 0, none⟩) (n + 4) cap')) (grown_block hg P2.out (HLT.out _ (by omega))) (by intro e; have := Option.some.inj e; omega)); have co2 := (cell_of_row _ _ 2 _ _ (0, 0) D0.out).trans rfl; have fo2 := frozen_of_row _ _ 2 _ _ D0.out; clear hown hg hnil))
    | (with_reducible refine wpList_load_row rfl 41 _ rfl w.heap.size rfl 41 #[.int .i64 W, .int .i64 H, .slice (some ⟨g', 0, none⟩) (n + 4) cap'] (0, 0) _ (heap_setCell_same _ _ _ _ _ _ D0.out) Try.underlying41 rfl (imgSize3 _ _ _) ?_)
    | (with_reducible refine wpList_store_row rfl 41 _ _ rfl (w.heap.size + 1 + 1) _ rfl rfl 41 _ D2.out (imgSize3 _ _ _) (imgSz _ _ _ _ _ _) (imgOne _ _ _ _ _) ?_))
  refine bodyPost_ret (results_cell_row (p := 4) (ty := 41) rfl _ _ (w.heap.size + 1 + 1) 41 _ (0, 0) _ rfl (setRow_heap _ _ _ _ _ _ D2.out) Try.underlying41 rfl imgSize) rfl ?_
  have m1 : g' ≠ w.heap.size := row_not HOWN.out D0.out (by decide)
  have k4 := grownBy_setCell3 w2 w.heap.size 2 (.slice (some ⟨g', 0, none⟩) (n + 4) cap')
  have o4 := World.ownsRow.kept HOWN.out k4 (.inr (by intro e; exact m1 (Option.some.inj e)))
  have m2 : g' ≠ w.heap.size + 1 + 1 := row_not o4 D2.out (by decide)
  exact ⟨g', cap', rfl, World.ownsRow.kept o4 (grownBy_setRow _ _ _) (.inr (by intro e; exact m2 (Option.some.inj e))), grown_new (grown_new (grown_join G1.out HGR.out) k4 (Nat.le_refl _)) (grownBy_setRow _ _ _) (by omega)⟩

def NewR4 (base : Nat) (v : Value) (w : World) : Prop := ∃ b, v = .pointer (some ⟨b, 0, none⟩) ∧ base ≤ b ∧ w.heap[b]? = some (.cells #[.int .i64 0, .int .i64 0, .int .i64 0, .int .i64 0] 92)
theorem NewR4.below {base : Nat} {v : Value} {w w' : World} (h : NewR4 base v w) (hb : Below w.heap.size w w') : NewR4 base v w' := by
  obtain ⟨g, h1, h2, h3⟩ := h
  exact ⟨g, h1, h2, (hb.block _ (block_lt h3)).trans h3⟩
def RefOneP (k : Nat) (a : List Int) (c : C4) (x y wd : Int) (w : World) (e : Ending) (w' : World) : Prop := e = .returned (.tuple #[(pm.res k a c x y wd).val, .int .i64 0]) ∧ Below w.heap.size w w'
set_option maxRecDepth 100000 in
set_option maxHeartbeats 3200000 in
theorem refOne_any (k : Nat) (op : ByteArray) (hop : pm.idx op = some k) (a : List Int) (c : C4) (x y wd : Int) (p : Option Addr) (n cap : Nat) (w : World) (ha : pm.okA k a) (hc : c.ok) (hA : Sl .i64 w p n cap a) (hn : n ≤ 17592186044416) (hx : 0 ≤ x) (hxw : x < wd) (hwd : wd ≤ 65536) (hy : 0 ≤ y) (hy2 : y ≤ 65536) :
    Calls Try.prog 28 #[.string op, .slice p n cap, .agg #[.int .u16 c.r, .int .u16 c.g, .int .u16 c.b, .int .u16 c.a], .int .i64 x, .int .i64 y, .int .i64 wd] w (RefOneP k a c x y wd w) := by
  obtain ⟨hk20, hopn⟩ := pm.idx_some hop
  obtain ⟨hc0, hc1, hc2, hc3⟩ := hc
  have HC : Hid c.ok := Lib.hid ⟨hc0, hc1, hc2, hc3⟩
  have HL := tm.luma_range hc0 hc1 hc2
  have HE := Lib.hid (pm.errOf_ok hop ha)
  obtain ⟨rc, hrc⟩ : ∃ rc, pm.res k a c x y wd = rc := ⟨_, rfl⟩
  have HRK : Hid rc.ok := Lib.hid (by rw [← hrc]; exact pm.res_ok hk20 ha HC.out (.inr ⟨hx, hxw⟩))
  have HA := Lib.hid hA
  have hone := fun (u : World) (hu : Sl .i64 u p n cap a) => refone_any k hk20 a c x y wd p n cap u ha HC.out (.inr ⟨hx, hxw, hwd, hy, hy2⟩) hu
  rw [← hopn] at hone
  have HO := Lib.hid hone
  have HRC := Lib.hid hrc
  clear hone hrc hopn hop ha hA
  go_enter Try.func28, Try.ntmps28
  go_wp2_with fail
  have B0 := Lib.hid (((Below.refl w.heap.size w).alloc (Nat.le_refl _) (.cells #[.int .u16 c.r, .int .u16 c.g, .int .u16 c.b, .int .u16 c.a] 33)).alloc (by simp) (.cells #[.int .u16 0, .int .u16 0, .int .u16 0, .int .u16 0] 33))
  obtain ⟨q0, q1⟩ := heap2 w (.cells #[.int .u16 c.r, .int .u16 c.g, .int .u16 c.b, .int .u16 c.a] 33) (.cells #[.int .u16 0, .int .u16 0, .int .u16 0, .int .u16 0] 33)
  generalize (w.alloc (.cells #[.int .u16 c.r, .int .u16 c.g, .int .u16 c.b, .int .u16 c.a] 33)).alloc (.cells #[.int .u16 0, .int .u16 0, .int .u16 0, .int .u16 0] 33) = w1 at *
  refine (refCheck_any op p n cap a _ (HA.out.below B0.out) hn).mono ?_
  rintro e w2 ⟨rfl, hb⟩
  rw [HE.out]
  have Q0 := Lib.hid ((hb.block _ (block_lt q0)).trans q0)
  have Q1 := Lib.hid ((hb.block _ (block_lt q1)).trans q1)
  have HB2 := Lib.hid (B0.out.trans (hb.mono B0.out.size))
  clear hb q0 q1
  go_wp2_with fail
  have k0 := (cell_of_row _ _ 0 _ _ (0, 0) Q0.out).trans rfl
  have k1 := (cell_of_row _ _ 1 _ _ (0, 0) Q0.out).trans rfl
  have k2 := (cell_of_row _ _ 2 _ _ (0, 0) Q0.out).trans rfl
  have k3 := (cell_of_row _ _ 3 _ _ (0, 0) Q0.out).trans rfl
  have HONE : Hid (∀ u, Below w2.heap.size w2 u → Calls Try.prog 63 #[.string op, .slice p n cap, .agg #[.int .i64 c.r, .int .i64 c.g, .int .i64 c.b, .int .i64 c.a], .int .i64 (tm.luma c.r c.g c.b), .int .i64 x, .int .i64 y, .int .i64 wd] u fun e u' => e = .returned (iv rc) ∧ Below u.heap.size u u') := Lib.hid (fun u hu => (HO.out u (HA.out.below (HB2.out.trans (hu.mono HB2.out.size)))).mono fun _ _ h => ⟨by rw [h.1, HRC.out], h.2⟩)
  refine wp_region_laid_tail (D := fun i => ([35, 36, 37, 38, 39, 40, 41, 42, 43, 44, 45, 46, 47, 48, 49, 50, 51, 52, 53, 54, 55, 56, 15] : List Nat).getD i 0)
    (R := fun i v w' => match i with
      | 0 => v = .string op
      | 1 => v = .slice p n cap
      | 2 => v = .pointer (some ⟨w.heap.size, 0, none⟩)
      | 3 => v = .int .u16 c.r
      | 4 => v = .int .i64 c.r
      | 5 => v = .pointer (some ⟨w.heap.size, 1, none⟩)
      | 6 => v = .int .u16 c.g
      | 7 => v = .int .i64 c.g
      | 8 => v = .pointer (some ⟨w.heap.size, 2, none⟩)
      | 9 => v = .int .u16 c.b
      | 10 => v = .int .i64 c.b
      | 11 => v = .pointer (some ⟨w.heap.size, 3, none⟩)
      | 12 => v = .int .u16 c.a
      | 13 => v = .int .i64 c.a
      | 14 => v = .agg #[.int .i64 c.r, .int .i64 c.g, .int .i64 c.b, .int .i64 c.a]
      | 15 => v = .agg #[.int .u16 c.r, .int .u16 c.g, .int .u16 c.b, .int .u16 c.a]
      | 16 => v = .int .u16 (tm.luma c.r c.g c.b)
      | 17 => v = .int .i64 (tm.luma c.r c.g c.b)
      | 18 => v = .int .i64 x
      | 19 => v = .int .i64 y
      | 20 => v = .int .i64 wd
      | 21 => v = iv rc
      | 22 => NewR4 w2.heap.size v w'
      | _ => True)
    (S := fun a' w' => (a'.tmps[0]? = some (.string op) ∧ a'.tmps[1]? = some (.slice p n cap) ∧ a'.tmps[3]? = some (.int .i64 x) ∧ a'.tmps[4]? = some (.int .i64 y) ∧ a'.tmps[5]? = some (.int .i64 wd) ∧ a'.tmps[8]? = some (.pointer (some ⟨w.heap.size, 0, none⟩))) ∧ Below w2.heap.size w2 w')
    23 (by rfl) (by kernel_rfl) (by kernel_rfl) (by kernel_rfl) (by kernel_rfl) ?_ ?_ ?_ ?_
  · intro i v u u' h hb
    match i, h with
    | 0, h => exact h
    | 1, h => exact h
    | 2, h => exact h
    | 3, h => exact h
    | 4, h => exact h
    | 5, h => exact h
    | 6, h => exact h
    | 7, h => exact h
    | 8, h => exact h
    | 9, h => exact h
    | 10, h => exact h
    | 11, h => exact h
    | 12, h => exact h
    | 13, h => exact h
    | 14, h => exact h
    | 15, h => exact h
    | 16, h => exact h
    | 17, h => exact h
    | 18, h => exact h
    | 19, h => exact h
    | 20, h => exact h
    | 21, h => exact h
    | 22, h => exact NewR4.below h hb
    | i + 23, _ => trivial
  · intro a' u hb _ hold
    exact ⟨⟨hold 0 (by decide), hold 1 (by decide), hold 3 (by decide), hold 4 (by decide), hold 5 (by decide), hold 8 (by decide)⟩, hb⟩
  · refine ⟨od_move 0 _ rfl (fun a u h => h.1.1) (fun _ => rfl), od_move 1 _ rfl (fun a u h => h.1.2.1) (fun _ => rfl), ?_, ?_, ?_, ?_, ?_, ?_, ?_, ?_, ?_, ?_, ?_, ?_, ?_, od_load_row 8 _ _ _ _ _ rfl (fun a u h => ⟨h.1.2.2.2.2.2, (h.2.block _ (block_lt Q0.out)).trans Q0.out⟩) Try.underlying33 rfl colSize (fun _ => rfl), ?_, ?_, od_move 3 _ rfl (fun a u h => h.1.2.2.1) (fun _ => rfl), od_move 4 _ rfl (fun a u h => h.1.2.2.2.1) (fun _ => rfl), od_move 5 _ rfl (fun a u h => h.1.2.2.2.2.1) (fun _ => rfl), ?_, ?_, trivial⟩
    · intro a' u hS hd
      clear hd
      have e := hS.1.2.2.2.2.2
      go_simp
      exact ⟨_, rfl, rfl, Below.refl _ _⟩
    · intro a' u hS hd
      obtain ⟨_, e0, rfl⟩ := hd 2 (by kernel_rfl)
      have f0 : a'.tmps[37]? = some _ := e0
      clear e0
      clear hd
      have x0 := keep_cell hS.2 k0
      go_simp
      exact ⟨_, rfl, rfl, Below.refl _ _⟩
    · intro a' u hS hd
      obtain ⟨_, e0, rfl⟩ := hd 3 (by kernel_rfl)
      have f0 : a'.tmps[38]? = some _ := e0
      clear e0
      clear hd
      have W : IntKind.i64.wrap c.r = c.r := IntWalk.i64_in _ (by omega)
      go_simp
      exact ⟨_, rfl, rfl, Below.refl _ _⟩
    · intro a' u hS hd
      clear hd
      have e := hS.1.2.2.2.2.2
      go_simp
      exact ⟨_, rfl, rfl, Below.refl _ _⟩
    · intro a' u hS hd
      obtain ⟨_, e0, rfl⟩ := hd 5 (by kernel_rfl)
      have f0 : a'.tmps[40]? = some _ := e0
      clear e0
      clear hd
      have x0 := keep_cell hS.2 k1
      go_simp
      exact ⟨_, rfl, rfl, Below.refl _ _⟩
    · intro a' u hS hd
      obtain ⟨_, e0, rfl⟩ := hd 6 (by kernel_rfl)
      have f0 : a'.tmps[41]? = some _ := e0
      clear e0
      clear hd
      have W : IntKind.i64.wrap c.g = c.g := IntWalk.i64_in _ (by omega)
      go_simp
      exact ⟨_, rfl, rfl, Below.refl _ _⟩
    · intro a' u hS hd
      clear hd
      have e := hS.1.2.2.2.2.2
      go_simp
      exact ⟨_, rfl, rfl, Below.refl _ _⟩
    · intro a' u hS hd
      obtain ⟨_, e0, rfl⟩ := hd 8 (by kernel_rfl)
      have f0 : a'.tmps[43]? = some _ := e0
      clear e0
      clear hd
      have x0 := keep_cell hS.2 k2
      go_simp
      exact ⟨_, rfl, rfl, Below.refl _ _⟩
    · intro a' u hS hd
      obtain ⟨_, e0, rfl⟩ := hd 9 (by kernel_rfl)
      have f0 : a'.tmps[44]? = some _ := e0
      clear e0
      clear hd
      have W : IntKind.i64.wrap c.b = c.b := IntWalk.i64_in _ (by omega)
      go_simp
      exact ⟨_, rfl, rfl, Below.refl _ _⟩
    · intro a' u hS hd
      clear hd
      have e := hS.1.2.2.2.2.2
      go_simp
      exact ⟨_, rfl, rfl, Below.refl _ _⟩
    · intro a' u hS hd
      obtain ⟨_, e0, rfl⟩ := hd 11 (by kernel_rfl)
      have f0 : a'.tmps[46]? = some _ := e0
      clear e0
      clear hd
      have x0 := keep_cell hS.2 k3
      go_simp
      exact ⟨_, rfl, rfl, Below.refl _ _⟩
    · intro a' u hS hd
      obtain ⟨_, e0, rfl⟩ := hd 12 (by kernel_rfl)
      have f0 : a'.tmps[47]? = some _ := e0
      clear e0
      clear hd
      have W : IntKind.i64.wrap c.a = c.a := IntWalk.i64_in _ (by omega)
      go_simp
      exact ⟨_, rfl, rfl, Below.refl _ _⟩
    · intro a' u hS hd
      obtain ⟨_, e0, rfl⟩ := hd 4 (by kernel_rfl)
      have f0 : a'.tmps[39]? = some _ := e0
      clear e0
      obtain ⟨_, e1, rfl⟩ := hd 7 (by kernel_rfl)
      have f1 : a'.tmps[42]? = some _ := e1
      clear e1
      obtain ⟨_, e2, rfl⟩ := hd 10 (by kernel_rfl)
      have f2 : a'.tmps[45]? = some _ := e2
      clear e2
      obtain ⟨_, e3, rfl⟩ := hd 13 (by kernel_rfl)
      have f3 : a'.tmps[48]? = some _ := e3
      clear e3
      clear hd
      refine wp_built _ _ rfl [(0, .int .i64 c.r), (1, .int .i64 c.g), (2, .int .i64 c.b), (3, .int .i64 c.a)] #[.int .i64 c.r, .int .i64 c.g, .int .i64 c.b, .int .i64 c.a] (by simp [Act.eval, f0, f1, f2, f3]) rfl ⟨_, rfl, rfl, Below.refl _ _⟩
    · intro a' u hS hd
      obtain ⟨_, e0, rfl⟩ := hd 15 (by kernel_rfl)
      have f0 : a'.tmps[50]? = some _ := e0
      clear e0
      clear hd
      go_simp
      refine (refLuma_any _ _ _ c.a _ HC.out.1 HC.out.2.1 HC.out.2.2.1).mono ?_
      rintro e u' ⟨rfl, hb⟩
      exact ⟨_, rfl, rfl, hb⟩
    · intro a' u hS hd
      obtain ⟨_, e0, rfl⟩ := hd 16 (by kernel_rfl)
      have f0 : a'.tmps[51]? = some _ := e0
      clear e0
      clear hd
      have W : IntKind.i64.wrap (tm.luma c.r c.g c.b) = tm.luma c.r c.g c.b := IntWalk.i64_in _ (by omega)
      go_simp
      exact ⟨_, rfl, rfl, Below.refl _ _⟩
    · intro a' u hS hd
      obtain ⟨_, e0, rfl⟩ := hd 0 (by kernel_rfl)
      have f0 : a'.tmps[35]? = some _ := e0
      clear e0
      obtain ⟨_, e1, rfl⟩ := hd 1 (by kernel_rfl)
      have f1 : a'.tmps[36]? = some _ := e1
      clear e1
      obtain ⟨_, e2, rfl⟩ := hd 14 (by kernel_rfl)
      have f2 : a'.tmps[49]? = some _ := e2
      clear e2
      obtain ⟨_, e3, rfl⟩ := hd 17 (by kernel_rfl)
      have f3 : a'.tmps[52]? = some _ := e3
      clear e3
      obtain ⟨_, e4, rfl⟩ := hd 18 (by kernel_rfl)
      have f4 : a'.tmps[53]? = some _ := e4
      clear e4
      obtain ⟨_, e5, rfl⟩ := hd 19 (by kernel_rfl)
      have f5 : a'.tmps[54]? = some _ := e5
      clear e5
      obtain ⟨_, e6, rfl⟩ := hd 20 (by kernel_rfl)
      have f6 : a'.tmps[55]? = some _ := e6
      clear e6
      clear hd
      go_simp
      refine (HONE.out u hS.2).mono ?_
      rintro e u' ⟨rfl, hb⟩
      exact ⟨_, rfl, rfl, hb⟩
    · intro a' u hS hd
      clear hd
      have hsz := hS.2.size
      go_simp
      exact ⟨_, rfl, ⟨_, rfl, hsz, heap_alloc_last _ _⟩, (Below.refl _ _).alloc (Nat.le_refl _) _⟩
  · intro a' u h
    obtain ⟨_, e56, rfl⟩ := h.new 21 (by decide) (by decide +kernel)
    obtain ⟨_, e15, bc, rfl, hbc, hcc⟩ := h.new 22 (by decide) (by decide +kernel)
    replace e56 : a'.tmps[56]? = some (.agg #[.int .i64 rc.r, .int .i64 rc.g, .int .i64 rc.b, .int .i64 rc.a]) := e56
    replace e15 : a'.tmps[15]? = some (.pointer (some ⟨bc, 0, none⟩)) := e15
    have e12 : a'.tmps[12]? = some (.pointer (some ⟨w.heap.size + 1, 0, none⟩)) := h.old 12 (by decide)
    have hsz : a'.tmps.size = 70 := h.size
    have hdf : a'.defers = [] := h.defers
    have hbu := h.below
    clear h k0 k1 k2 k3
    refine wpList_store_row rfl 92 _ _ rfl bc _ (eval_tmp (t := 15) e15) (eval_tmp (t := 56) e56) 92 _ hcc (r4Size4 _ _ _ _) (colSz _ _ _ _ _ _ _ _) (r4One _ _ _ _) ?_
    have CC := Lib.hid (setRow_heap u bc _ #[.int .i64 rc.r, .int .i64 rc.g, .int .i64 rc.b, .int .i64 rc.a] _ _ hcc)
    have BU := Lib.hid (HB2.out.trans ((below_setRow hbu hbc #[.int .i64 rc.r, .int .i64 rc.g, .int .i64 rc.b, .int .i64 rc.a]).mono HB2.out.size))
    have QU := Lib.hid (((below_setRow hbu hbc #[.int .i64 rc.r, .int .i64 rc.g, .int .i64 rc.b, .int .i64 rc.a]).block _ (block_lt Q1.out)).trans Q1.out)
    clear hcc hbu hbc
    generalize u.setRow bc #[.int .i64 rc.r, .int .i64 rc.g, .int .i64 rc.b, .int .i64 rc.a] = u2 at *
    obtain ⟨tmps, defers⟩ := a'
    simp only at hsz hdf e56 e15 e12
    subst hdf
    clear e56
    obtain ⟨ll⟩ := tmps
    match ll, hsz with
    | z0 :: z1 :: z2 :: z3 :: z4 :: z5 :: z6 :: z7 :: z8 :: z9 :: z10 :: z11 :: z12 :: z13 :: z14 :: z15 :: z16 :: z17 :: z18 :: z19 :: z20 :: z21 :: z22 :: z23 :: z24 :: z25 :: z26 :: z27 :: z28 :: z29 :: z30 :: z31 :: z32 :: z33 :: z34 :: z35 :: z36 :: z37 :: z38 :: z39 :: z40 :: z41 :: z42 :: z43 :: z44 :: z45 :: z46 :: z47 :: z48 :: z49 :: z50 :: z51 :: z52 :: z53 :: z54 :: z55 :: z56 :: z57 :: z58 :: z59 :: z60 :: z61 :: z62 :: z63 :: z64 :: z65 :: z66 :: z67 :: z68 :: z69 :: [], _ =>
      obtain rfl : z12 = .pointer (some ⟨w.heap.size + 1, 0, none⟩) := by simpa using e12
      obtain rfl : z15 = .pointer (some ⟨bc, 0, none⟩) := by simpa using e15
      clear e12 e15
      have k0 := (cell_of_row _ _ 0 _ _ (0, 0) CC.out).trans rfl
      have k1 := (cell_of_row _ _ 1 _ _ (0, 0) CC.out).trans rfl
      have k2 := (cell_of_row _ _ 2 _ _ (0, 0) CC.out).trans rfl
      have k3 := (cell_of_row _ _ 3 _ _ (0, 0) CC.out).trans rfl
      obtain ⟨⟨r1, r2⟩, ⟨r3, r4⟩, ⟨r5, r6⟩, ⟨r7, r8⟩⟩ := HRK.out
      go_wp2_with (with_reducible refine wpList_store_row rfl 33 _ _ rfl (w.heap.size + 1) _ rfl rfl 33 _ QU.out (colSize4 _ _ _ _) (colSz _ _ _ _ _ _ _ _) (colOne _ _ _ _) ?_)
      exact bodyPost_ret (results_cell_tmp (p := 12) (q := 13) (ty := 33) rfl _ _ (w.heap.size + 1) 33 _ (0, 0) _ _ rfl rfl (setRow_heap _ _ _ _ _ _ QU.out) Try.underlying33 rfl colSize) rfl ⟨by rw [HRC.out]; rfl, below_setRow BU.out (by omega) _⟩
end Go.Proofs.Ytdemndjenlhahaa
