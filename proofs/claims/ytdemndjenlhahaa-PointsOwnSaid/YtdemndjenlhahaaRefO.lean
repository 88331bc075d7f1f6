/- The reference's 'one', by operator. -/
import Derived.Test.YtdemndjenlhahaaRefS
import Derived.Test.YtdemndjenlhahaaQuietTail
import Derived.Test.YtdemndjenlhahaaPt6
import Derived.Test.YtdemndjenlhahaaImg2
namespace Go.Proofs.Ytdemndjenlhahaa
open Go.RowKit Go.Sort

def iv (c : C4) : Value := .agg #[.int .i64 c.r, .int .i64 c.g, .int .i64 c.b, .int .i64 c.a]
theorem r4Size : (Try.prog.info? 92).map (·.size) = some 4 := by kernel_rfl
theorem r4Size4 (a b c d : Value) : (Try.prog.info? 92).map (·.size) = some (#[a, b, c, d] : Array Value).size := r4Size
theorem r4One (r g b a : Int) : (#[.int .i64 r, .int .i64 g, .int .i64 b, .int .i64 a] : Array Value).all (·.oneCell') = true := by simp [Value.oneCell']
def RefOnePost (k : Nat) (a : List Int) (c : C4) (x y wd : Int) (w : World) (e : Ending) (w' : World) : Prop := e = .returned (iv (pm.res k a c x y wd)) ∧ Below w.heap.size w w'
def RefOneAt (k : Nat) (op : ByteArray) : Prop := ∀ (a : List Int) (c : C4) (x y wd : Int) (p : Option Addr) (n cap : Nat) (w : World), pm.okA k a → c.ok → PlaceOk k x y wd → Sl .i64 w p n cap a →
  Calls Try.prog 63 #[.string op, .slice p n cap, .agg #[.int .i64 c.r, .int .i64 c.g, .int .i64 c.b, .int .i64 c.a], .int .i64 (tm.luma c.r c.g c.b), .int .i64 x, .int .i64 y, .int .i64 wd] w (RefOnePost k a c x y wd w)

set_option maxRecDepth 100000 in
set_option maxHeartbeats 3200000 in
theorem refone1 : RefOneAt 1 ⟨#[103, 114, 101, 121]⟩ := by
  intro a c x y wd p n cap w h hc hpl hA
  clear hA h hpl
  go_enter Try.func63, Try.ntmps63
  go_wp2_with fail
  have HB := Lib.hid (((Below.refl w.heap.size w).alloc (Nat.le_refl _) (.cells #[.int .i64 c.r, .int .i64 c.g, .int .i64 c.b, .int .i64 c.a] 92)).alloc (by simp) (.cells #[.int .i64 0, .int .i64 0, .int .i64 0, .int .i64 0] 92))
  obtain ⟨q1, q2⟩ := heap2 w (.cells #[.int .i64 c.r, .int .i64 c.g, .int .i64 c.b, .int .i64 c.a] 92) (.cells #[.int .i64 0, .int .i64 0, .int .i64 0, .int .i64 0] 92)
  generalize (w.alloc (.cells #[.int .i64 c.r, .int .i64 c.g, .int .i64 c.b, .int .i64 c.a] 92)).alloc (.cells #[.int .i64 0, .int .i64 0, .int .i64 0, .int .i64 0] 92) = w1 at *
  have Q1 := Lib.hid q1
  have Q2 := Lib.hid q2
  clear q1 q2
  have k0 := cell_regrown ((cell_of_row w1 _ 0 _ _ (0, 0) Q1.out).trans rfl)
  have k1 := cell_regrown ((cell_of_row w1 _ 1 _ _ (0, 0) Q1.out).trans rfl)
  have k2 := cell_regrown ((cell_of_row w1 _ 2 _ _ (0, 0) Q1.out).trans rfl)
  refine wp_region_quiet_below (by kernel_rfl) (by kernel_rfl) ?_
  repeat (go_big_quiet_step (fail))
  refine wpQuiet_nil ?_
  intro _ hw'
  obtain ⟨⟨dq, osq⟩, hw''⟩ := hw'
  subst hw''
  have hb := below_regrown w1 dq osq
  clear k0 k1 k2
  generalize grow (redrawn w1 dq) osq = w2 at *
  have HB2 := Lib.hid (HB.out.trans (hb.mono HB.out.size))
  have R1 := Lib.hid ((hb.block _ (block_lt Q1.out)).trans Q1.out)
  have R2 := Lib.hid ((hb.block _ (block_lt Q2.out)).trans Q2.out)
  clear hb Q1 Q2 HB
  have j3 := (cell_of_row w2 _ 3 _ _ (0, 0) R1.out).trans rfl
  go_wp2_with (with_reducible refine wpList_store_row rfl 92 _ _ rfl (w.heap.size + 1) _ rfl rfl 92 _ R2.out (r4Size4 _ _ _ _) (colSz _ _ _ _ _ _ _ _) (r4One _ _ _ _) ?_)
  exact bodyPost_ret (v := .agg #[.int .i64 (tm.luma c.r c.g c.b), .int .i64 (tm.luma c.r c.g c.b), .int .i64 (tm.luma c.r c.g c.b), .int .i64 c.a]) (results_cell_row (p := 14) (ty := 92) rfl _ _ (w.heap.size + 1) 92 _ (0, 0) _ rfl (setRow_heap _ _ _ _ _ _ R2.out) Try.underlying92 rfl r4Size) rfl ⟨rfl, below_setRow HB2.out (by omega) _⟩

set_option maxRecDepth 100000 in
set_option maxHeartbeats 3200000 in
theorem refone2 : RefOneAt 2 ⟨#[116, 104, 114, 101, 115, 104, 111, 108, 100]⟩ := by
  intro a c x y wd p n cap w h hc hpl hA
  obtain ⟨t, rfl, ht⟩ := fit1 (show pm.fitL a [(0, 65535)] from h.1)
  have HV : Hid (pm.res 2 [t] c x y wd = if tm.luma c.r c.g c.b < t then ⟨0, 0, 0, c.a⟩ else ⟨65535, 65535, 65535, c.a⟩) := Lib.hid rfl
  have HA := Lib.hid hA
  clear hA h hpl
  go_enter Try.func63, Try.ntmps63
  go_wp2_with fail
  have HB := Lib.hid (((Below.refl w.heap.size w).alloc (Nat.le_refl _) (.cells #[.int .i64 c.r, .int .i64 c.g, .int .i64 c.b, .int .i64 c.a] 92)).alloc (by simp) (.cells #[.int .i64 0, .int .i64 0, .int .i64 0, .int .i64 0] 92))
  obtain ⟨q1, q2⟩ := heap2 w (.cells #[.int .i64 c.r, .int .i64 c.g, .int .i64 c.b, .int .i64 c.a] 92) (.cells #[.int .i64 0, .int .i64 0, .int .i64 0, .int .i64 0] 92)
  generalize (w.alloc (.cells #[.int .i64 c.r, .int .i64 c.g, .int .i64 c.b, .int .i64 c.a] 92)).alloc (.cells #[.int .i64 0, .int .i64 0, .int .i64 0, .int .i64 0] 92) = w1 at *
  have Q1 := Lib.hid q1
  have Q2 := Lib.hid q2
  clear q1 q2
  have k0 := cell_regrown ((cell_of_row w1 _ 0 _ _ (0, 0) Q1.out).trans rfl)
  have k1 := cell_regrown ((cell_of_row w1 _ 1 _ _ (0, 0) Q1.out).trans rfl)
  have k2 := cell_regrown ((cell_of_row w1 _ 2 _ _ (0, 0) Q1.out).trans rfl)
  refine wp_region_quiet_below (by kernel_rfl) (by kernel_rfl) ?_
  repeat (go_big_quiet_step (fail))
  refine wpQuiet_nil ?_
  intro _ hw'
  obtain ⟨⟨dq, osq⟩, hw''⟩ := hw'
  subst hw''
  have hb := below_regrown w1 dq osq
  clear k0 k1 k2
  generalize grow (redrawn w1 dq) osq = w2 at *
  have HB2 := Lib.hid (HB.out.trans (hb.mono HB.out.size))
  have R1 := Lib.hid ((hb.block _ (block_lt Q1.out)).trans Q1.out)
  have R2 := Lib.hid ((hb.block _ (block_lt Q2.out)).trans Q2.out)
  clear hb Q1 Q2 HB
  obtain ⟨b, off, rfl, rfl, l0⟩ := args1 (HA.out.below HB2.out)
  have j3 := (cell_of_row w2 _ 3 _ _ (0, 0) R1.out).trans rfl
  by_cases hc2 : tm.luma c.r c.g c.b < t
  · go_wp2_with (with_reducible refine wpList_store_row rfl 92 _ _ rfl (w.heap.size + 1) _ rfl rfl 92 _ R2.out (r4Size4 _ _ _ _) (colSz _ _ _ _ _ _ _ _) (r4One _ _ _ _) ?_)
    exact bodyPost_ret (v := .agg #[.int .i64 0, .int .i64 0, .int .i64 0, .int .i64 c.a]) (results_cell_row (p := 14) (ty := 92) rfl _ _ (w.heap.size + 1) 92 _ (0, 0) _ rfl (setRow_heap _ _ _ _ _ _ R2.out) Try.underlying92 rfl r4Size) rfl ⟨by rw [HV.out, if_pos hc2]; rfl, below_setRow HB2.out (by omega) _⟩
  · go_wp2_with (with_reducible refine wpList_store_row rfl 92 _ _ rfl (w.heap.size + 1) _ rfl rfl 92 _ R2.out (r4Size4 _ _ _ _) (colSz _ _ _ _ _ _ _ _) (r4One _ _ _ _) ?_)
    exact bodyPost_ret (v := .agg #[.int .i64 65535, .int .i64 65535, .int .i64 65535, .int .i64 c.a]) (results_cell_row (p := 14) (ty := 92) rfl _ _ (w.heap.size + 1) 92 _ (0, 0) _ rfl (setRow_heap _ _ _ _ _ _ R2.out) Try.underlying92 rfl r4Size) rfl ⟨by rw [HV.out, if_neg (by omega)]; rfl, below_setRow HB2.out (by omega) _⟩

set_option maxRecDepth 100000 in
set_option maxHeartbeats 3200000 in
theorem refone11 : RefOneAt 11 ⟨#[99, 104, 97, 110, 110, 101, 108]⟩ := by
  intro a c x y wd p n cap w h hc hpl hA
  obtain ⟨t, rfl, ht⟩ := fit1 (show pm.fitL a [(0, 3)] from h.1)
  have HA := Lib.hid hA
  clear hA h hpl
  simp only at ht
  rcases (show t = 0 ∨ t = 1 ∨ t = 2 ∨ t = 3 by omega) with rfl | rfl | rfl | rfl
  · skip
    go_enter Try.func63, Try.ntmps63
    go_wp2_with fail
    have HB := Lib.hid (((Below.refl w.heap.size w).alloc (Nat.le_refl _) (.cells #[.int .i64 c.r, .int .i64 c.g, .int .i64 c.b, .int .i64 c.a] 92)).alloc (by simp) (.cells #[.int .i64 0, .int .i64 0, .int .i64 0, .int .i64 0] 92))
    obtain ⟨q1, q2⟩ := heap2 w (.cells #[.int .i64 c.r, .int .i64 c.g, .int .i64 c.b, .int .i64 c.a] 92) (.cells #[.int .i64 0, .int .i64 0, .int .i64 0, .int .i64 0] 92)
    generalize (w.alloc (.cells #[.int .i64 c.r, .int .i64 c.g, .int .i64 c.b, .int .i64 c.a] 92)).alloc (.cells #[.int .i64 0, .int .i64 0, .int .i64 0, .int .i64 0] 92) = w1 at *
    have Q1 := Lib.hid q1
    have Q2 := Lib.hid q2
    clear q1 q2
    have k0 := cell_regrown ((cell_of_row w1 _ 0 _ _ (0, 0) Q1.out).trans rfl)
    have k1 := cell_regrown ((cell_of_row w1 _ 1 _ _ (0, 0) Q1.out).trans rfl)
    have k2 := cell_regrown ((cell_of_row w1 _ 2 _ _ (0, 0) Q1.out).trans rfl)
    refine wp_region_quiet_below (by kernel_rfl) (by kernel_rfl) ?_
    repeat (go_big_quiet_step (fail))
    refine wpQuiet_nil ?_
    intro _ hw'
    obtain ⟨⟨dq, osq⟩, hw''⟩ := hw'
    subst hw''
    have hb := below_regrown w1 dq osq
    clear k0 k1 k2
    generalize grow (redrawn w1 dq) osq = w2 at *
    have HB2 := Lib.hid (HB.out.trans (hb.mono HB.out.size))
    have R1 := Lib.hid ((hb.block _ (block_lt Q1.out)).trans Q1.out)
    have R2 := Lib.hid ((hb.block _ (block_lt Q2.out)).trans Q2.out)
    clear hb Q1 Q2 HB
    obtain ⟨b, off, rfl, rfl, l0⟩ := args1 (HA.out.below HB2.out)
    have m0 := cell_regrown l0
    have m1 := cell_regrown ((cell_of_row w2 _ 0 _ _ (0, 0) R1.out).trans rfl)
    clear l0
    go_wp2_with fail
    refine wp_region_quiet_tail 16 (by kernel_rfl) (by kernel_rfl) ?_
    simp only [List.take_succ_cons, List.take_zero, List.drop_succ_cons, List.drop_zero]
    repeat (go_big_quiet_step (fail))
    refine wpQuiet_nil ?_
    intro _ hw'
    obtain ⟨⟨dq, osq⟩, hw''⟩ := hw'
    subst hw''
    have hb := below_regrown w2 dq osq
    clear m0 m1
    generalize grow (redrawn w2 dq) osq = w4 at *
    have R4 := Lib.hid ((hb.block _ (block_lt R2.out)).trans R2.out)
    have HB4 := Lib.hid (HB2.out.trans (hb.mono HB2.out.size))
    clear hb
    refine wpList_store_row rfl 92 _ _ rfl (w.heap.size + 1) _ rfl rfl 92 _ R4.out (r4Size4 _ _ _ _) (colSz _ _ _ _ _ _ _ _) (r4One _ _ _ _) ?_
    go_wp2_with fail
    exact bodyPost_ret (v := .agg #[.int .i64 c.r, .int .i64 c.r, .int .i64 c.r, .int .i64 65535]) (results_cell_row (p := 14) (ty := 92) rfl _ _ (w.heap.size + 1) 92 _ (0, 0) _ rfl (setRow_heap _ _ _ _ _ _ R4.out) Try.underlying92 rfl r4Size) rfl ⟨rfl, below_setRow HB4.out (by omega) _⟩
  · skip
    go_enter Try.func63, Try.ntmps63
    go_wp2_with fail
    have HB := Lib.hid (((Below.refl w.heap.size w).alloc (Nat.le_refl _) (.cells #[.int .i64 c.r, .int .i64 c.g, .int .i64 c.b, .int .i64 c.a] 92)).alloc (by simp) (.cells #[.int .i64 0, .int .i64 0, .int .i64 0, .int .i64 0] 92))
    obtain ⟨q1, q2⟩ := heap2 w (.cells #[.int .i64 c.r, .int .i64 c.g, .int .i64 c.b, .int .i64 c.a] 92) (.cells #[.int .i64 0, .int .i64 0, .int .i64 0, .int .i64 0] 92)
    generalize (w.alloc (.cells #[.int .i64 c.r, .int .i64 c.g, .int .i64 c.b, .int .i64 c.a] 92)).alloc (.cells #[.int .i64 0, .int .i64 0, .int .i64 0, .int .i64 0] 92) = w1 at *
    have Q1 := Lib.hid q1
    have Q2 := Lib.hid q2
    clear q1 q2
    have k0 := cell_regrown ((cell_of_row w1 _ 0 _ _ (0, 0) Q1.out).trans rfl)
    have k1 := cell_regrown ((cell_of_row w1 _ 1 _ _ (0, 0) Q1.out).trans rfl)
    have k2 := cell_regrown ((cell_of_row w1 _ 2 _ _ (0, 0) Q1.out).trans rfl)
    refine wp_region_quiet_below (by kernel_rfl) (by kernel_rfl) ?_
    repeat (go_big_quiet_step (fail))
    refine wpQuiet_nil ?_
    intro _ hw'
    obtain ⟨⟨dq, osq⟩, hw''⟩ := hw'
    subst hw''
    have hb := below_regrown w1 dq osq
    clear k0 k1 k2
    generalize grow (redrawn w1 dq) osq = w2 at *
    have HB2 := Lib.hid (HB.out.trans (hb.mono HB.out.size))
    have R1 := Lib.hid ((hb.block _ (block_lt Q1.out)).trans Q1.out)
    have R2 := Lib.hid ((hb.block _ (block_lt Q2.out)).trans Q2.out)
    clear hb Q1 Q2 HB
    obtain ⟨b, off, rfl, rfl, l0⟩ := args1 (HA.out.below HB2.out)
    have m0 := cell_regrown l0
    have m1 := cell_regrown ((cell_of_row w2 _ 1 _ _ (0, 0) R1.out).trans rfl)
    clear l0
    go_wp2_with fail
    refine wp_region_quiet_tail 16 (by kernel_rfl) (by kernel_rfl) ?_
    simp only [List.take_succ_cons, List.take_zero, List.drop_succ_cons, List.drop_zero]
    repeat (go_big_quiet_step (fail))
    refine wpQuiet_nil ?_
    intro _ hw'
    obtain ⟨⟨dq, osq⟩, hw''⟩ := hw'
    subst hw''
    have hb := below_regrown w2 dq osq
    clear m0 m1
    generalize grow (redrawn w2 dq) osq = w4 at *
    have R4 := Lib.hid ((hb.block _ (block_lt R2.out)).trans R2.out)
    have HB4 := Lib.hid (HB2.out.trans (hb.mono HB2.out.size))
    clear hb
    refine wpList_store_row rfl 92 _ _ rfl (w.heap.size + 1) _ rfl rfl 92 _ R4.out (r4Size4 _ _ _ _) (colSz _ _ _ _ _ _ _ _) (r4One _ _ _ _) ?_
    go_wp2_with fail
    exact bodyPost_ret (v := .agg #[.int .i64 c.g, .int .i64 c.g, .int .i64 c.g, .int .i64 65535]) (results_cell_row (p := 14) (ty := 92) rfl _ _ (w.heap.size + 1) 92 _ (0, 0) _ rfl (setRow_heap _ _ _ _ _ _ R4.out) Try.underlying92 rfl r4Size) rfl ⟨rfl, below_setRow HB4.out (by omega) _⟩
  · skip
    go_enter Try.func63, Try.ntmps63
    go_wp2_with fail
    have HB := Lib.hid (((Below.refl w.heap.size w).alloc (Nat.le_refl _) (.cells #[.int .i64 c.r, .int .i64 c.g, .int .i64 c.b, .int .i64 c.a] 92)).alloc (by simp) (.cells #[.int .i64 0, .int .i64 0, .int .i64 0, .int .i64 0] 92))
    obtain ⟨q1, q2⟩ := heap2 w (.cells #[.int .i64 c.r, .int .i64 c.g, .int .i64 c.b, .int .i64 c.a] 92) (.cells #[.int .i64 0, .int .i64 0, .int .i64 0, .int .i64 0] 92)
    generalize (w.alloc (.cells #[.int .i64 c.r, .int .i64 c.g, .int .i64 c.b, .int .i64 c.a] 92)).alloc (.cells #[.int .i64 0, .int .i64 0, .int .i64 0, .int .i64 0] 92) = w1 at *
    have Q1 := Lib.hid q1
    have Q2 := Lib.hid q2
    clear q1 q2
    have k0 := cell_regrown ((cell_of_row w1 _ 0 _ _ (0, 0) Q1.out).trans rfl)
    have k1 := cell_regrown ((cell_of_row w1 _ 1 _ _ (0, 0) Q1.out).trans rfl)
    have k2 := cell_regrown ((cell_of_row w1 _ 2 _ _ (0, 0) Q1.out).trans rfl)
    refine wp_region_quiet_below (by kernel_rfl) (by kernel_rfl) ?_
    repeat (go_big_quiet_step (fail))
    refine wpQuiet_nil ?_
    intro _ hw'
    obtain ⟨⟨dq, osq⟩, hw''⟩ := hw'
    subst hw''
    have hb := below_regrown w1 dq osq
    clear k0 k1 k2
    generalize grow (redrawn w1 dq) osq = w2 at *
    have HB2 := Lib.hid (HB.out.trans (hb.mono HB.out.size))
    have R1 := Lib.hid ((hb.block _ (block_lt Q1.out)).trans Q1.out)
    have R2 := Lib.hid ((hb.block _ (block_lt Q2.out)).trans Q2.out)
    clear hb Q1 Q2 HB
    obtain ⟨b, off, rfl, rfl, l0⟩ := args1 (HA.out.below HB2.out)
    have m0 := cell_regrown l0
    have m1 := cell_regrown ((cell_of_row w2 _ 2 _ _ (0, 0) R1.out).trans rfl)
    clear l0
    go_wp2_with fail
    refine wp_region_quiet_tail 16 (by kernel_rfl) (by kernel_rfl) ?_
    simp only [List.take_succ_cons, List.take_zero, List.drop_succ_cons, List.drop_zero]
    repeat (go_big_quiet_step (fail))
    refine wpQuiet_nil ?_
    intro _ hw'
    obtain ⟨⟨dq, osq⟩, hw''⟩ := hw'
    subst hw''
    have hb := below_regrown w2 dq osq
    clear m0 m1
    generalize grow (redrawn w2 dq) osq = w4 at *
    have R4 := Lib.hid ((hb.block _ (block_lt R2.out)).trans R2.out)
    have HB4 := Lib.hid (HB2.out.trans (hb.mono HB2.out.size))
    clear hb
    refine wpList_store_row rfl 92 _ _ rfl (w.heap.size + 1) _ rfl rfl 92 _ R4.out (r4Size4 _ _ _ _) (colSz _ _ _ _ _ _ _ _) (r4One _ _ _ _) ?_
    go_wp2_with fail
    exact bodyPost_ret (v := .agg #[.int .i64 c.b, .int .i64 c.b, .int .i64 c.b, .int .i64 65535]) (results_cell_row (p := 14) (ty := 92) rfl _ _ (w.heap.size + 1) 92 _ (0, 0) _ rfl (setRow_heap _ _ _ _ _ _ R4.out) Try.underlying92 rfl r4Size) rfl ⟨rfl, below_setRow HB4.out (by omega) _⟩
  · skip
    go_enter Try.func63, Try.ntmps63
    go_wp2_with fail
    have HB := Lib.hid (((Below.refl w.heap.size w).alloc (Nat.le_refl _) (.cells #[.int .i64 c.r, .int .i64 c.g, .int .i64 c.b, .int .i64 c.a] 92)).alloc (by simp) (.cells #[.int .i64 0, .int .i64 0, .int .i64 0, .int .i64 0] 92))
    obtain ⟨q1, q2⟩ := heap2 w (.cells #[.int .i64 c.r, .int .i64 c.g, .int .i64 c.b, .int .i64 c.a] 92) (.cells #[.int .i64 0, .int .i64 0, .int .i64 0, .int .i64 0] 92)
    generalize (w.alloc (.cells #[.int .i64 c.r, .int .i64 c.g, .int .i64 c.b, .int .i64 c.a] 92)).alloc (.cells #[.int .i64 0, .int .i64 0, .int .i64 0, .int .i64 0] 92) = w1 at *
    have Q1 := Lib.hid q1
    have Q2 := Lib.hid q2
    clear q1 q2
    have k0 := cell_regrown ((cell_of_row w1 _ 0 _ _ (0, 0) Q1.out).trans rfl)
    have k1 := cell_regrown ((cell_of_row w1 _ 1 _ _ (0, 0) Q1.out).trans rfl)
    have k2 := cell_regrown ((cell_of_row w1 _ 2 _ _ (0, 0) Q1.out).trans rfl)
    refine wp_region_quiet_below (by kernel_rfl) (by kernel_rfl) ?_
    repeat (go_big_quiet_step (fail))
    refine wpQuiet_nil ?_
    intro _ hw'
    obtain ⟨⟨dq, osq⟩, hw''⟩ := hw'
    subst hw''
    have hb := below_regrown w1 dq osq
    clear k0 k1 k2
    generalize grow (redrawn w1 dq) osq = w2 at *
    have HB2 := Lib.hid (HB.out.trans (hb.mono HB.out.size))
    have R1 := Lib.hid ((hb.block _ (block_lt Q1.out)).trans Q1.out)
    have R2 := Lib.hid ((hb.block _ (block_lt Q2.out)).trans Q2.out)
    clear hb Q1 Q2 HB
    obtain ⟨b, off, rfl, rfl, l0⟩ := args1 (HA.out.below HB2.out)
    have m0 := cell_regrown l0
    have m1 := cell_regrown ((cell_of_row w2 _ 3 _ _ (0, 0) R1.out).trans rfl)
    clear l0
    go_wp2_with fail
    refine wp_region_quiet_tail 16 (by kernel_rfl) (by kernel_rfl) ?_
    simp only [List.take_succ_cons, List.take_zero, List.drop_succ_cons, List.drop_zero]
    repeat (go_big_quiet_step (fail))
    refine wpQuiet_nil ?_
    intro _ hw'
    obtain ⟨⟨dq, osq⟩, hw''⟩ := hw'
    subst hw''
    have hb := below_regrown w2 dq osq
    clear m0 m1
    generalize grow (redrawn w2 dq) osq = w4 at *
    have R4 := Lib.hid ((hb.block _ (block_lt R2.out)).trans R2.out)
    have HB4 := Lib.hid (HB2.out.trans (hb.mono HB2.out.size))
    clear hb
    refine wpList_store_row rfl 92 _ _ rfl (w.heap.size + 1) _ rfl rfl 92 _ R4.out (r4Size4 _ _ _ _) (colSz _ _ _ _ _ _ _ _) (r4One _ _ _ _) ?_
    go_wp2_with fail
    exact bodyPost_ret (v := .agg #[.int .i64 c.a, .int .i64 c.a, .int .i64 c.a, .int .i64 65535]) (results_cell_row (p := 14) (ty := 92) rfl _ _ (w.heap.size + 1) 92 _ (0, 0) _ rfl (setRow_heap _ _ _ _ _ _ R4.out) Try.underlying92 rfl r4Size) rfl ⟨rfl, below_setRow HB4.out (by omega) _⟩

set_option maxRecDepth 100000 in
set_option maxHeartbeats 3200000 in
theorem refone12 : RefOneAt 12 ⟨#[115, 101, 112, 105, 97]⟩ := by
  intro a c x y wd p n cap w h hc hpl hA
  obtain ⟨hc0, hc1, hc2, hc3⟩ := hc
  clear hA h hpl
  go_enter Try.func63, Try.ntmps63
  go_wp2_with fail
  have HB := Lib.hid (((Below.refl w.heap.size w).alloc (Nat.le_refl _) (.cells #[.int .i64 c.r, .int .i64 c.g, .int .i64 c.b, .int .i64 c.a] 92)).alloc (by simp) (.cells #[.int .i64 0, .int .i64 0, .int .i64 0, .int .i64 0] 92))
  obtain ⟨q1, q2⟩ := heap2 w (.cells #[.int .i64 c.r, .int .i64 c.g, .int .i64 c.b, .int .i64 c.a] 92) (.cells #[.int .i64 0, .int .i64 0, .int .i64 0, .int .i64 0] 92)
  generalize (w.alloc (.cells #[.int .i64 c.r, .int .i64 c.g, .int .i64 c.b, .int .i64 c.a] 92)).alloc (.cells #[.int .i64 0, .int .i64 0, .int .i64 0, .int .i64 0] 92) = w1 at *
  have Q1 := Lib.hid q1
  have Q2 := Lib.hid q2
  clear q1 q2
  have k0 := cell_regrown ((cell_of_row w1 _ 0 _ _ (0, 0) Q1.out).trans rfl)
  have k1 := cell_regrown ((cell_of_row w1 _ 1 _ _ (0, 0) Q1.out).trans rfl)
  have k2 := cell_regrown ((cell_of_row w1 _ 2 _ _ (0, 0) Q1.out).trans rfl)
  refine wp_region_quiet_below (by kernel_rfl) (by kernel_rfl) ?_
  repeat (go_big_quiet_step (fail))
  refine wpQuiet_nil ?_
  intro _ hw'
  obtain ⟨⟨dq, osq⟩, hw''⟩ := hw'
  subst hw''
  have hb := below_regrown w1 dq osq
  clear k0 k1 k2
  generalize grow (redrawn w1 dq) osq = w2 at *
  have HB2 := Lib.hid (HB.out.trans (hb.mono HB.out.size))
  have R1 := Lib.hid ((hb.block _ (block_lt Q1.out)).trans Q1.out)
  have R2 := Lib.hid ((hb.block _ (block_lt Q2.out)).trans Q2.out)
  clear hb Q1 Q2 HB
  have CM : Hid (∀ v d os, Calls Try.prog 69 #[.int .i64 v] (grow (redrawn w2 d) os) fun e w'' => e = .returned (.int .i64 (tm.clampTo v 65535)) ∧ ∃ p : Regrown, w'' = grow (redrawn w2 p.d) p.os) :=
    Lib.hid (fun v d os => Calls.regrown_of (below_of (refclamp_any _ _)))
  have W01 : IntKind.i64.wrap (25756 * c.r) = 25756 * c.r := IntWalk.i64_in _ (by omega)
  have W02 : IntKind.i64.wrap (50397 * c.g) = 50397 * c.g := IntWalk.i64_in _ (by omega)
  have W03 : IntKind.i64.wrap (12386 * c.b) = 12386 * c.b := IntWalk.i64_in _ (by omega)
  have W04 : IntKind.i64.wrap (25756 * c.r + 50397 * c.g) = 25756 * c.r + 50397 * c.g := IntWalk.i64_in _ (by omega)
  have W05 : IntKind.i64.wrap (25756 * c.r + 50397 * c.g + 12386 * c.b) = 25756 * c.r + 50397 * c.g + 12386 * c.b := IntWalk.i64_in _ (by omega)
  have W06 : (25756 * c.r + 50397 * c.g + 12386 * c.b).tdiv 65536 = (25756 * c.r + 50397 * c.g + 12386 * c.b) / 65536 := Int.tdiv_eq_ediv_of_nonneg (by omega)
  have W07 : IntKind.i64.wrap ((25756 * c.r + 50397 * c.g + 12386 * c.b) / 65536) = (25756 * c.r + 50397 * c.g + 12386 * c.b) / 65536 := IntWalk.i64_in _ (by omega)
  have W11 : IntKind.i64.wrap (22872 * c.r) = 22872 * c.r := IntWalk.i64_in _ (by omega)
  have W12 : IntKind.i64.wrap (44958 * c.g) = 44958 * c.g := IntWalk.i64_in _ (by omega)
  have W13 : IntKind.i64.wrap (11010 * c.b) = 11010 * c.b := IntWalk.i64_in _ (by omega)
  have W14 : IntKind.i64.wrap (22872 * c.r + 44958 * c.g) = 22872 * c.r + 44958 * c.g := IntWalk.i64_in _ (by omega)
  have W15 : IntKind.i64.wrap (22872 * c.r + 44958 * c.g + 11010 * c.b) = 22872 * c.r + 44958 * c.g + 11010 * c.b := IntWalk.i64_in _ (by omega)
  have W16 : (22872 * c.r + 44958 * c.g + 11010 * c.b).tdiv 65536 = (22872 * c.r + 44958 * c.g + 11010 * c.b) / 65536 := Int.tdiv_eq_ediv_of_nonneg (by omega)
  have W17 : IntKind.i64.wrap ((22872 * c.r + 44958 * c.g + 11010 * c.b) / 65536) = (22872 * c.r + 44958 * c.g + 11010 * c.b) / 65536 := IntWalk.i64_in _ (by omega)
  have W21 : IntKind.i64.wrap (17826 * c.r) = 17826 * c.r := IntWalk.i64_in _ (by omega)
  have W22 : IntKind.i64.wrap (34996 * c.g) = 34996 * c.g := IntWalk.i64_in _ (by omega)
  have W23 : IntKind.i64.wrap (8585 * c.b) = 8585 * c.b := IntWalk.i64_in _ (by omega)
  have W24 : IntKind.i64.wrap (17826 * c.r + 34996 * c.g) = 17826 * c.r + 34996 * c.g := IntWalk.i64_in _ (by omega)
  have W25 : IntKind.i64.wrap (17826 * c.r + 34996 * c.g + 8585 * c.b) = 17826 * c.r + 34996 * c.g + 8585 * c.b := IntWalk.i64_in _ (by omega)
  have W26 : (17826 * c.r + 34996 * c.g + 8585 * c.b).tdiv 65536 = (17826 * c.r + 34996 * c.g + 8585 * c.b) / 65536 := Int.tdiv_eq_ediv_of_nonneg (by omega)
  have W27 : IntKind.i64.wrap ((17826 * c.r + 34996 * c.g + 8585 * c.b) / 65536) = (17826 * c.r + 34996 * c.g + 8585 * c.b) / 65536 := IntWalk.i64_in _ (by omega)
  have m3 := cell_regrown ((cell_of_row w2 _ 3 _ _ (0, 0) R1.out).trans rfl)
  go_wp2_with fail
  refine wp_region_quiet_tail 33 (by kernel_rfl) (by kernel_rfl) ?_
  simp only [List.take_succ_cons, List.take_zero, List.drop_succ_cons, List.drop_zero]
  repeat (go_big_quiet_step (exact CM.out _ _ _))
  refine wpQuiet_nil ?_
  intro _ hw'
  obtain ⟨⟨dq, osq⟩, hw''⟩ := hw'
  subst hw''
  have hb := below_regrown w2 dq osq
  clear m3 W01 W02 W03 W04 W05 W06 W07 W11 W12 W13 W14 W15 W16 W17 W21 W22 W23 W24 W25 W26 W27
  generalize grow (redrawn w2 dq) osq = w4 at *
  have R4 := Lib.hid ((hb.block _ (block_lt R2.out)).trans R2.out)
  have HB4 := Lib.hid (HB2.out.trans (hb.mono HB2.out.size))
  clear hb
  refine wpList_store_row rfl 92 _ _ rfl (w.heap.size + 1) _ rfl rfl 92 _ R4.out (r4Size4 _ _ _ _) (colSz _ _ _ _ _ _ _ _) (r4One _ _ _ _) ?_
  go_wp2_with fail
  exact bodyPost_ret (v := .agg #[.int .i64 (tm.clampTo ((25756 * c.r + 50397 * c.g + 12386 * c.b) / 65536) 65535), .int .i64 (tm.clampTo ((22872 * c.r + 44958 * c.g + 11010 * c.b) / 65536) 65535), .int .i64 (tm.clampTo ((17826 * c.r + 34996 * c.g + 8585 * c.b) / 65536) 65535), .int .i64 c.a]) (results_cell_row (p := 14) (ty := 92) rfl _ _ (w.heap.size + 1) 92 _ (0, 0) _ rfl (setRow_heap _ _ _ _ _ _ R4.out) Try.underlying92 rfl r4Size) rfl ⟨rfl, below_setRow HB4.out (by omega) _⟩

set_option maxRecDepth 100000 in
set_option maxHeartbeats 3200000 in
theorem refone14 : RefOneAt 14 ⟨#[111, 112, 97, 113, 117, 101]⟩ := by
  intro a c x y wd p n cap w h hc hpl hA
  clear hA h hpl
  go_enter Try.func63, Try.ntmps63
  go_wp2_with fail
  have HB := Lib.hid (((Below.refl w.heap.size w).alloc (Nat.le_refl _) (.cells #[.int .i64 c.r, .int .i64 c.g, .int .i64 c.b, .int .i64 c.a] 92)).alloc (by simp) (.cells #[.int .i64 0, .int .i64 0, .int .i64 0, .int .i64 0] 92))
  obtain ⟨q1, q2⟩ := heap2 w (.cells #[.int .i64 c.r, .int .i64 c.g, .int .i64 c.b, .int .i64 c.a] 92) (.cells #[.int .i64 0, .int .i64 0, .int .i64 0, .int .i64 0] 92)
  generalize (w.alloc (.cells #[.int .i64 c.r, .int .i64 c.g, .int .i64 c.b, .int .i64 c.a] 92)).alloc (.cells #[.int .i64 0, .int .i64 0, .int .i64 0, .int .i64 0] 92) = w1 at *
  have Q1 := Lib.hid q1
  have Q2 := Lib.hid q2
  clear q1 q2
  have k0 := cell_regrown ((cell_of_row w1 _ 0 _ _ (0, 0) Q1.out).trans rfl)
  have k1 := cell_regrown ((cell_of_row w1 _ 1 _ _ (0, 0) Q1.out).trans rfl)
  have k2 := cell_regrown ((cell_of_row w1 _ 2 _ _ (0, 0) Q1.out).trans rfl)
  refine wp_region_quiet_below (by kernel_rfl) (by kernel_rfl) ?_
  repeat (go_big_quiet_step (fail))
  refine wpQuiet_nil ?_
  intro _ hw'
  obtain ⟨⟨dq, osq⟩, hw''⟩ := hw'
  subst hw''
  have hb := below_regrown w1 dq osq
  clear k0 k1 k2
  generalize grow (redrawn w1 dq) osq = w2 at *
  have HB2 := Lib.hid (HB.out.trans (hb.mono HB.out.size))
  have R1 := Lib.hid ((hb.block _ (block_lt Q1.out)).trans Q1.out)
  have R2 := Lib.hid ((hb.block _ (block_lt Q2.out)).trans Q2.out)
  clear hb Q1 Q2 HB
  have j3 := (cell_of_row w2 _ 3 _ _ (0, 0) R1.out).trans rfl
  have f3 := frozen_of_row w2 _ 3 _ _ R1.out
  have S1 : Hid ((w2.setCell ⟨w.heap.size, 3, none⟩ (.int .i64 65535)).heap[w.heap.size]? = some (.cells #[.int .i64 c.r, .int .i64 c.g, .int .i64 c.b, .int .i64 65535] 92)) := Lib.hid (heap_setCell_same w2 w.heap.size 3 _ _ (.int .i64 65535) R1.out)
  have S2 := Lib.hid (grown_block (grownBy_setCell3 w2 w.heap.size 3 (.int .i64 65535)) R2.out (by intro e; have := Option.some.inj e; omega))
  go_wp2_with (first | (with_reducible refine wpList_load_row rfl 92 _ rfl w.heap.size rfl 92 _ (0, 0) _ (S1.out) Try.underlying92 rfl (r4Size4 _ _ _ _) ?_) | (with_reducible refine wpList_store_row rfl 92 _ _ rfl (w.heap.size + 1) _ rfl rfl 92 _ S2.out (r4Size4 _ _ _ _) (colSz _ _ _ _ _ _ _ _) (r4One _ _ _ _) ?_))
  exact bodyPost_ret (v := .agg #[.int .i64 c.r, .int .i64 c.g, .int .i64 c.b, .int .i64 65535]) (results_cell_row (p := 14) (ty := 92) rfl _ _ (w.heap.size + 1) 92 _ (0, 0) _ rfl (setRow_heap _ _ _ _ _ _ S2.out) Try.underlying92 rfl r4Size) rfl ⟨rfl, below_setRow (HB2.out.setCell (p := ⟨w.heap.size, 3, none⟩) (Nat.le_refl _) _) (by omega) _⟩

set_option maxRecDepth 100000 in
set_option maxHeartbeats 3200000 in
theorem refone15 : RefOneAt 15 ⟨#[97, 108, 112, 104, 97]⟩ := by
  intro a c x y wd p n cap w h hc hpl hA
  obtain ⟨hc0, hc1, hc2, hc3⟩ := hc
  obtain ⟨t, rfl, ht⟩ := fit1 (show pm.fitL a [(0, 256)] from h.1)
  have HA := Lib.hid hA
  simp only at ht
  clear hA h hpl
  go_enter Try.func63, Try.ntmps63
  go_wp2_with fail
  have HB := Lib.hid (((Below.refl w.heap.size w).alloc (Nat.le_refl _) (.cells #[.int .i64 c.r, .int .i64 c.g, .int .i64 c.b, .int .i64 c.a] 92)).alloc (by simp) (.cells #[.int .i64 0, .int .i64 0, .int .i64 0, .int .i64 0] 92))
  obtain ⟨q1, q2⟩ := heap2 w (.cells #[.int .i64 c.r, .int .i64 c.g, .int .i64 c.b, .int .i64 c.a] 92) (.cells #[.int .i64 0, .int .i64 0, .int .i64 0, .int .i64 0] 92)
  generalize (w.alloc (.cells #[.int .i64 c.r, .int .i64 c.g, .int .i64 c.b, .int .i64 c.a] 92)).alloc (.cells #[.int .i64 0, .int .i64 0, .int .i64 0, .int .i64 0] 92) = w1 at *
  have Q1 := Lib.hid q1
  have Q2 := Lib.hid q2
  clear q1 q2
  have k0 := cell_regrown ((cell_of_row w1 _ 0 _ _ (0, 0) Q1.out).trans rfl)
  have k1 := cell_regrown ((cell_of_row w1 _ 1 _ _ (0, 0) Q1.out).trans rfl)
  have k2 := cell_regrown ((cell_of_row w1 _ 2 _ _ (0, 0) Q1.out).trans rfl)
  refine wp_region_quiet_below (by kernel_rfl) (by kernel_rfl) ?_
  repeat (go_big_quiet_step (fail))
  refine wpQuiet_nil ?_
  intro _ hw'
  obtain ⟨⟨dq, osq⟩, hw''⟩ := hw'
  subst hw''
  have hb := below_regrown w1 dq osq
  clear k0 k1 k2
  generalize grow (redrawn w1 dq) osq = w2 at *
  have HB2 := Lib.hid (HB.out.trans (hb.mono HB.out.size))
  have R1 := Lib.hid ((hb.block _ (block_lt Q1.out)).trans Q1.out)
  have R2 := Lib.hid ((hb.block _ (block_lt Q2.out)).trans Q2.out)
  clear hb Q1 Q2 HB
  obtain ⟨b, off, rfl, rfl, l0⟩ := args1 (HA.out.below HB2.out)
  have hm := pm.mul_range (x := c.a) (y := t) (A := 65535) (B := 256) (by omega) (by omega)
  have W1 : IntKind.i64.wrap (c.a * t) = c.a * t := IntWalk.i64_in _ (by omega)
  have W2 : (c.a * t).tdiv 256 = c.a * t / 256 := Int.tdiv_eq_ediv_of_nonneg hm.1
  have W3 : IntKind.i64.wrap (c.a * t / 256) = c.a * t / 256 := IntWalk.i64_in _ (by omega)
  have m0 := cell_regrown l0
  have m3 := cell_regrown ((cell_of_row w2 _ 3 _ _ (0, 0) R1.out).trans rfl)
  clear l0
  go_wp2_with fail
  refine wp_region_quiet_tail 8 (by kernel_rfl) (by kernel_rfl) ?_
  simp only [List.take_succ_cons, List.take_zero, List.drop_succ_cons, List.drop_zero]
  repeat (go_big_quiet_step (fail))
  refine wpQuiet_nil ?_
  intro _ hw'
  obtain ⟨⟨dq, osq⟩, hw''⟩ := hw'
  subst hw''
  have hb := below_regrown w2 dq osq
  clear m0 m3 W1 W2 W3
  generalize grow (redrawn w2 dq) osq = w4 at *
  have R3 := Lib.hid ((hb.block _ (block_lt R1.out)).trans R1.out)
  have R4 := Lib.hid ((hb.block _ (block_lt R2.out)).trans R2.out)
  have HB4 := Lib.hid (HB2.out.trans (hb.mono HB2.out.size))
  clear hb
  have j3 := (cell_of_row w4 _ 3 _ _ (0, 0) R3.out).trans rfl
  have f3 := frozen_of_row w4 _ 3 _ _ R3.out
  have S1 : Hid ((w4.setCell ⟨w.heap.size, 3, none⟩ (.int .i64 (c.a * t / 256))).heap[w.heap.size]? = some (.cells #[.int .i64 c.r, .int .i64 c.g, .int .i64 c.b, .int .i64 (c.a * t / 256)] 92)) := Lib.hid (heap_setCell_same w4 w.heap.size 3 _ _ (.int .i64 (c.a * t / 256)) R3.out)
  have S2 := Lib.hid (grown_block (grownBy_setCell3 w4 w.heap.size 3 (.int .i64 (c.a * t / 256))) R4.out (by intro e; have := Option.some.inj e; omega))
  go_wp2_with (first | (with_reducible refine wpList_load_row rfl 92 _ rfl w.heap.size rfl 92 _ (0, 0) _ (S1.out) Try.underlying92 rfl (r4Size4 _ _ _ _) ?_) | (with_reducible refine wpList_store_row rfl 92 _ _ rfl (w.heap.size + 1) _ rfl rfl 92 _ S2.out (r4Size4 _ _ _ _) (colSz _ _ _ _ _ _ _ _) (r4One _ _ _ _) ?_))
  exact bodyPost_ret (v := .agg #[.int .i64 c.r, .int .i64 c.g, .int .i64 c.b, .int .i64 (c.a * t / 256)]) (results_cell_row (p := 14) (ty := 92) rfl _ _ (w.heap.size + 1) 92 _ (0, 0) _ rfl (setRow_heap _ _ _ _ _ _ S2.out) Try.underlying92 rfl r4Size) rfl ⟨rfl, below_setRow (HB4.out.setCell (p := ⟨w.heap.size, 3, none⟩) (Nat.le_refl _) _) (by omega) _⟩

set_option maxRecDepth 100000 in
set_option maxHeartbeats 3200000 in
theorem refone19 : RefOneAt 19 ⟨#[102, 97, 100, 101]⟩ := by
  intro a c x y wd p n cap w h hc hpl hA
  obtain ⟨hc0, hc1, hc2, hc3⟩ := hc
  obtain ⟨p1, p2, p3, p4, p5⟩ : 0 ≤ x ∧ x < wd ∧ wd ≤ 65536 ∧ 0 ≤ y ∧ y ≤ 65536 := hpl.resolve_left (by omega)
  clear hA h hpl
  go_enter Try.func63, Try.ntmps63
  go_wp2_with fail
  have HB := Lib.hid (((Below.refl w.heap.size w).alloc (Nat.le_refl _) (.cells #[.int .i64 c.r, .int .i64 c.g, .int .i64 c.b, .int .i64 c.a] 92)).alloc (by simp) (.cells #[.int .i64 0, .int .i64 0, .int .i64 0, .int .i64 0] 92))
  obtain ⟨q1, q2⟩ := heap2 w (.cells #[.int .i64 c.r, .int .i64 c.g, .int .i64 c.b, .int .i64 c.a] 92) (.cells #[.int .i64 0, .int .i64 0, .int .i64 0, .int .i64 0] 92)
  generalize (w.alloc (.cells #[.int .i64 c.r, .int .i64 c.g, .int .i64 c.b, .int .i64 c.a] 92)).alloc (.cells #[.int .i64 0, .int .i64 0, .int .i64 0, .int .i64 0] 92) = w1 at *
  have Q1 := Lib.hid q1
  have Q2 := Lib.hid q2
  clear q1 q2
  have k0 := cell_regrown ((cell_of_row w1 _ 0 _ _ (0, 0) Q1.out).trans rfl)
  have k1 := cell_regrown ((cell_of_row w1 _ 1 _ _ (0, 0) Q1.out).trans rfl)
  have k2 := cell_regrown ((cell_of_row w1 _ 2 _ _ (0, 0) Q1.out).trans rfl)
  refine wp_region_quiet_below (by kernel_rfl) (by kernel_rfl) ?_
  repeat (go_big_quiet_step (fail))
  refine wpQuiet_nil ?_
  intro _ hw'
  obtain ⟨⟨dq, osq⟩, hw''⟩ := hw'
  subst hw''
  have hb := below_regrown w1 dq osq
  clear k0 k1 k2
  generalize grow (redrawn w1 dq) osq = w2 at *
  have HB2 := Lib.hid (HB.out.trans (hb.mono HB.out.size))
  have R1 := Lib.hid ((hb.block _ (block_lt Q1.out)).trans Q1.out)
  have R2 := Lib.hid ((hb.block _ (block_lt Q2.out)).trans Q2.out)
  clear hb Q1 Q2 HB
  have hm := pm.mul_range (x := c.a) (y := wd - x) (A := 65535) (B := 65536) (by omega) (by omega)
  have W1 : IntKind.i64.wrap (c.a * (wd - x)) = c.a * (wd - x) := IntWalk.i64_in _ (by omega)
  have W2 : (c.a * (wd - x)).tdiv wd = c.a * (wd - x) / wd := Int.tdiv_eq_ediv_of_nonneg hm.1
  have hq1 : 0 ≤ c.a * (wd - x) / wd := Int.ediv_nonneg hm.1 (by omega)
  have hq2 : c.a * (wd - x) / wd ≤ c.a * (wd - x) := Int.ediv_le_self _ hm.1
  have W3 : IntKind.i64.wrap (c.a * (wd - x) / wd) = c.a * (wd - x) / wd := IntWalk.i64_in _ (by omega)
  have W5 : (wd == 0) = false := by simp; omega
  have W6 : ¬ wd = 0 := by omega
  have j3 := (cell_of_row w2 _ 3 _ _ (0, 0) R1.out).trans rfl
  have f3 := frozen_of_row w2 _ 3 _ _ R1.out
  have S1 : Hid ((w2.setCell ⟨w.heap.size, 3, none⟩ (.int .i64 (c.a * (wd - x) / wd))).heap[w.heap.size]? = some (.cells #[.int .i64 c.r, .int .i64 c.g, .int .i64 c.b, .int .i64 (c.a * (wd - x) / wd)] 92)) := Lib.hid (heap_setCell_same w2 w.heap.size 3 _ _ (.int .i64 (c.a * (wd - x) / wd)) R1.out)
  have S2 := Lib.hid (grown_block (grownBy_setCell3 w2 w.heap.size 3 (.int .i64 (c.a * (wd - x) / wd))) R2.out (by intro e; have := Option.some.inj e; omega))
  go_wp2_with (first | (with_reducible refine wpList_load_row rfl 92 _ rfl w.heap.size rfl 92 _ (0, 0) _ (S1.out) Try.underlying92 rfl (r4Size4 _ _ _ _) ?_) | (with_reducible refine wpList_store_row rfl 92 _ _ rfl (w.heap.size + 1) _ rfl rfl 92 _ S2.out (r4Size4 _ _ _ _) (colSz _ _ _ _ _ _ _ _) (r4One _ _ _ _) ?_))
  exact bodyPost_ret (v := .agg #[.int .i64 c.r, .int .i64 c.g, .int .i64 c.b, .int .i64 (c.a * (wd - x) / wd)]) (results_cell_row (p := 14) (ty := 92) rfl _ _ (w.heap.size + 1) 92 _ (0, 0) _ rfl (setRow_heap _ _ _ _ _ _ S2.out) Try.underlying92 rfl r4Size) rfl ⟨rfl, below_setRow (HB2.out.setCell (p := ⟨w.heap.size, 3, none⟩) (Nat.le_refl _) _) (by omega) _⟩
end Go.Proofs.Ytdemndjenlhahaa
