/- The reference's 'one', by operator: checker; and all. -/
import Derived.Test.YtdemndjenlhahaaRefO
import Derived.Test.YtdemndjenlhahaaRefO3
import Derived.Test.YtdemndjenlhahaaRefO4
namespace Go.Proofs.Ytdemndjenlhahaa
open Go.RowKit Go.Sort
theorem r3Size : (Try.prog.info? 85).map (·.size) = some 3 := by kernel_rfl
theorem r3Size3 (a b c : Value) : (Try.prog.info? 85).map (·.size) = some (#[a, b, c] : Array Value).size := r3Size
theorem r3One (a b c : Int) : (#[.int .i64 a, .int .i64 b, .int .i64 c] : Array Value).all (·.oneCell') = true := by simp [Value.oneCell']
theorem tab_mid (w : World) (cs : Array Value) (t : TypeId) (o : Nat) (x y z : Value) (h0 : cs[o]? = some x) (h1 : cs[o + 1]? = some y) (h2 : cs[o + 2]? = some z) : ∀ j v, [x, y, z][j]? = some v → (w.alloc (.cells cs t)).cell? ⟨w.heap.size, o + j, none⟩ = some v := by
  intro j v hv
  have e := cell_of_row (w.alloc (.cells cs t)) w.heap.size (o + j) cs t (0, 0) (heap_alloc_last _ _)
  rw [e]
  match j, hv with
  | 0, hv => rw [Nat.add_zero, h0]; exact hv
  | 1, hv => rw [h1]; exact hv
  | 2, hv => rw [h2]; exact hv
  | j + 3, hv => simp at hv

set_option maxRecDepth 100000 in
set_option maxHeartbeats 3200000 in
theorem refone10 : RefOneAt 10 ⟨#[115, 119, 97, 112]⟩ := by
  intro a c x y wd p n cap w h hc hpl hA
  obtain ⟨hc0, hc1, hc2, hc3⟩ := hc
  obtain ⟨t, rfl, ht⟩ := fit1 (show pm.fitL a [(1, 5)] from h.1)
  have HA := Lib.hid hA
  clear hA h hpl
  simp only at ht
  rcases (show t = 1 ∨ t = 2 ∨ t = 3 ∨ t = 4 ∨ t = 5 by omega) with rfl | rfl | rfl | rfl | rfl
  · skip
    go_enter Try.func63, Try.ntmps63
    go_wp2_with fail
    have HB := Lib.hid (((Below.refl w.heap.size w).alloc (Nat.le_refl _) (.cells #[.int .i64 c.r, .int .i64 c.g, .int .i64 c.b, .int .i64 c.a] 92)).alloc (by simp) (.cells #[.int .i64 0, .int .i64 0, .int .i64 0, .int .i64 0] 92))
    obtain ⟨q1, q2⟩ := heap2 w (.cells #[.int .i64 c.r, .int .i64 c.g, .int .i64 c.b, .int .i64 c.a] 92) (.cells #[.int .i64 0, .int .i64 0, .int .i64 0, .int .i64 0] 92)
    generalize (w.alloc (.cells #[.int .i64 c.r, .int .i64 c.g, .int .i64 c.b, .int .i64 c.a] 92)).alloc (.cells #[.int .i64 0, .int .i64 0, .int .i64 0, .int .i64 0] 92) = w1 at *
    have Q1 := Lib.hid q1
    have Q2 := Lib.hid q2
    clear q1 q2
    have k0 := cell_regrown ((cell_of_row w1 _ 0 _ _ (0, 0) Q1.out).trans rfl)
    have k1 := cell_regrown ((cell_of_row w1 _ 1 _ _ (0, 0) Q1.out).trans rfl)
    have k2 := cell_regrown ((cell_of_row w1 _ 2 _ _ (0, 0) Q1.out).trans rfl)
    refine wp_region_quiet_below (by kernel_rfl) (by kernel_rfl) ?_
    repeat (go_big_quiet_step (fail))
    refine wpQuiet_nil ?_
    intro _ hw'
    obtain ⟨⟨dq, osq⟩, hw''⟩ := hw'
    subst hw''
    have hb := below_regrown w1 dq osq
    clear k0 k1 k2
    generalize grow (redrawn w1 dq) osq = w2 at *
    have HB2 := Lib.hid (HB.out.trans (hb.mono HB.out.size))
    have R1 := Lib.hid ((hb.block _ (block_lt Q1.out)).trans Q1.out)
    have R2 := Lib.hid ((hb.block _ (block_lt Q2.out)).trans Q2.out)
    clear hb Q1 Q2 HB
    obtain ⟨b, off, rfl, rfl, l0⟩ := args1 (HA.out.below HB2.out)
    have l1 := keep_cell ((Below.refl w2.heap.size w2).alloc (Nat.le_refl _) (.cells #[.int .i64 0, .int .i64 2, .int .i64 1, .int .i64 1, .int .i64 0, .int .i64 2, .int .i64 1, .int .i64 2, .int .i64 0, .int .i64 2, .int .i64 0, .int .i64 1, .int .i64 2, .int .i64 1, .int .i64 0] 85)) l0
    have MID := Lib.hid (tab_mid w2 #[.int .i64 0, .int .i64 2, .int .i64 1, .int .i64 1, .int .i64 0, .int .i64 2, .int .i64 1, .int .i64 2, .int .i64 0, .int .i64 2, .int .i64 0, .int .i64 1, .int .i64 2, .int .i64 1, .int .i64 0] 85 0 _ _ _ rfl rfl rfl)
    have HB3 := Lib.hid ((HB2.out.alloc HB2.out.size (.cells #[.int .i64 0, .int .i64 2, .int .i64 1, .int .i64 1, .int .i64 0, .int .i64 2, .int .i64 1, .int .i64 2, .int .i64 0, .int .i64 2, .int .i64 0, .int .i64 1, .int .i64 2, .int .i64 1, .int .i64 0] 85)).alloc (HB2.out.alloc HB2.out.size (.cells #[.int .i64 0, .int .i64 2, .int .i64 1, .int .i64 1, .int .i64 0, .int .i64 2, .int .i64 1, .int .i64 2, .int .i64 0, .int .i64 2, .int .i64 0, .int .i64 1, .int .i64 2, .int .i64 1, .int .i64 0] 85)).size (.cells #[.int .i64 0, .int .i64 2, .int .i64 1] 85))
    have C0 := Lib.hid (((Below.refl w2.heap.size w2).alloc (Nat.le_refl _) (.cells #[.int .i64 0, .int .i64 2, .int .i64 1, .int .i64 1, .int .i64 0, .int .i64 2, .int .i64 1, .int .i64 2, .int .i64 0, .int .i64 2, .int .i64 0, .int .i64 1, .int .i64 2, .int .i64 1, .int .i64 0] 85)).alloc (by simp) (.cells #[.int .i64 0, .int .i64 2, .int .i64 1] 85))
    have T1 := Lib.hid ((C0.out.block _ (block_lt R1.out)).trans R1.out)
    have T2 := Lib.hid ((C0.out.block _ (block_lt R2.out)).trans R2.out)
    have TP := heap_alloc_last (w2.alloc (.cells #[.int .i64 0, .int .i64 2, .int .i64 1, .int .i64 1, .int .i64 0, .int .i64 2, .int .i64 1, .int .i64 2, .int .i64 0, .int .i64 2, .int .i64 0, .int .i64 1, .int .i64 2, .int .i64 1, .int .i64 0] 85)) (.cells #[.int .i64 0, .int .i64 2, .int .i64 1] 85)
    rw [World.size_alloc] at TP
    have TP := Lib.hid TP
    clear l0
    go_wp2_with (first
      | (with_reducible refine wpList_load_mid rfl 85 _ rfl w2.heap.size 0 rfl [.int .i64 0, .int .i64 2, .int .i64 1] _ MID.out Try.underlying85 rfl (by rw [r3Size]; rfl) ?_)
      | (with_reducible refine wpList_store_row rfl 85 _ _ rfl (w2.heap.size + 1) _ rfl rfl 85 _ (heap_alloc_last _ _) (r3Size3 _ _ _) (imgSz _ _ _ _ _ _) (r3One _ _ _) ?_; rw [World.setRow_alloc_new]))
    generalize (w2.alloc (.cells #[.int .i64 0, .int .i64 2, .int .i64 1, .int .i64 1, .int .i64 0, .int .i64 2, .int .i64 1, .int .i64 2, .int .i64 0, .int .i64 2, .int .i64 0, .int .i64 1, .int .i64 2, .int .i64 1, .int .i64 0] 85)).alloc (.cells #[.int .i64 0, .int .i64 2, .int .i64 1] 85) = w3 at *
    clear l1
    have m0 := cell_regrown ((cell_of_row w3 _ 0 _ _ (0, 0) TP.out).trans rfl)
    have m1 := cell_regrown ((cell_of_row w3 _ 1 _ _ (0, 0) TP.out).trans rfl)
    have m2 := cell_regrown ((cell_of_row w3 _ 2 _ _ (0, 0) TP.out).trans rfl)
    have k0 := cell_regrown ((cell_of_row w3 _ 0 _ _ (0, 0) T1.out).trans rfl)
    have k1 := cell_regrown ((cell_of_row w3 _ 1 _ _ (0, 0) T1.out).trans rfl)
    have k2 := cell_regrown ((cell_of_row w3 _ 2 _ _ (0, 0) T1.out).trans rfl)
    have k3 := cell_regrown ((cell_of_row w3 _ 3 _ _ (0, 0) T1.out).trans rfl)
    refine wp_region_quiet_tail 15 (by kernel_rfl) (by kernel_rfl) ?_
    simp only [List.take_succ_cons, List.take_zero, List.drop_succ_cons, List.drop_zero]
    repeat (go_big_quiet_step (fail))
    refine wpQuiet_nil ?_
    intro _ hw'
    obtain ⟨⟨dq, osq⟩, hw''⟩ := hw'
    subst hw''
    have hb := below_regrown w3 dq osq
    clear m0 m1 m2 k0 k1 k2 k3
    generalize grow (redrawn w3 dq) osq = w4 at *
    have R4 := Lib.hid ((hb.block _ (block_lt T2.out)).trans T2.out)
    have HB4 := Lib.hid (HB3.out.trans (hb.mono HB3.out.size))
    clear hb
    refine wpList_store_row rfl 92 _ _ rfl (w.heap.size + 1) _ rfl rfl 92 _ R4.out (r4Size4 _ _ _ _) (colSz _ _ _ _ _ _ _ _) (r4One _ _ _ _) ?_
    go_wp2_with fail
    exact bodyPost_ret (v := .agg #[.int .i64 c.r, .int .i64 c.b, .int .i64 c.g, .int .i64 c.a]) (results_cell_row (p := 14) (ty := 92) rfl _ _ (w.heap.size + 1) 92 _ (0, 0) _ rfl (setRow_heap _ _ _ _ _ _ R4.out) Try.underlying92 rfl r4Size) rfl ⟨rfl, below_setRow HB4.out (by omega) _⟩
  · skip
    go_enter Try.func63, Try.ntmps63
    go_wp2_with fail
    have HB := Lib.hid (((Below.refl w.heap.size w).alloc (Nat.le_refl _) (.cells #[.int .i64 c.r, .int .i64 c.g, .int .i64 c.b, .int .i64 c.a] 92)).alloc (by simp) (.cells #[.int .i64 0, .int .i64 0, .int .i64 0, .int .i64 0] 92))
    obtain ⟨q1, q2⟩ := heap2 w (.cells #[.int .i64 c.r, .int .i64 c.g, .int .i64 c.b, .int .i64 c.a] 92) (.cells #[.int .i64 0, .int .i64 0, .int .i64 0, .int .i64 0] 92)
    generalize (w.alloc (.cells #[.int .i64 c.r, .int .i64 c.g, .int .i64 c.b, .int .i64 c.a] 92)).alloc (.cells #[.int .i64 0, .int .i64 0, .int .i64 0, .int .i64 0] 92) = w1 at *
    have Q1 := Lib.hid q1
    have Q2 := Lib.hid q2
    clear q1 q2
    have k0 := cell_regrown ((cell_of_row w1 _ 0 _ _ (0, 0) Q1.out).trans rfl)
    have k1 := cell_regrown ((cell_of_row w1 _ 1 _ _ (0, 0) Q1.out).trans rfl)
    have k2 := cell_regrown ((cell_of_row w1 _ 2 _ _ (0, 0) Q1.out).trans rfl)
    refine wp_region_quiet_below (by kernel_rfl) (by kernel_rfl) ?_
    repeat (go_big_quiet_step (fail))
    refine wpQuiet_nil ?_
    intro _ hw'
    obtain ⟨⟨dq, osq⟩, hw''⟩ := hw'
    subst hw''
    have hb := below_regrown w1 dq osq
    clear k0 k1 k2
    generalize grow (redrawn w1 dq) osq = w2 at *
    have HB2 := Lib.hid (HB.out.trans (hb.mono HB.out.size))
    have R1 := Lib.hid ((hb.block _ (block_lt Q1.out)).trans Q1.out)
    have R2 := Lib.hid ((hb.block _ (block_lt Q2.out)).trans Q2.out)
    clear hb Q1 Q2 HB
    obtain ⟨b, off, rfl, rfl, l0⟩ := args1 (HA.out.below HB2.out)
    have l1 := keep_cell ((Below.refl w2.heap.size w2).alloc (Nat.le_refl _) (.cells #[.int .i64 0, .int .i64 2, .int .i64 1, .int .i64 1, .int .i64 0, .int .i64 2, .int .i64 1, .int .i64 2, .int .i64 0, .int .i64 2, .int .i64 0, .int .i64 1, .int .i64 2, .int .i64 1, .int .i64 0] 85)) l0
    have MID := Lib.hid (tab_mid w2 #[.int .i64 0, .int .i64 2, .int .i64 1, .int .i64 1, .int .i64 0, .int .i64 2, .int .i64 1, .int .i64 2, .int .i64 0, .int .i64 2, .int .i64 0, .int .i64 1, .int .i64 2, .int .i64 1, .int .i64 0] 85 3 _ _ _ rfl rfl rfl)
    have HB3 := Lib.hid ((HB2.out.alloc HB2.out.size (.cells #[.int .i64 0, .int .i64 2, .int .i64 1, .int .i64 1, .int .i64 0, .int .i64 2, .int .i64 1, .int .i64 2, .int .i64 0, .int .i64 2, .int .i64 0, .int .i64 1, .int .i64 2, .int .i64 1, .int .i64 0] 85)).alloc (HB2.out.alloc HB2.out.size (.cells #[.int .i64 0, .int .i64 2, .int .i64 1, .int .i64 1, .int .i64 0, .int .i64 2, .int .i64 1, .int .i64 2, .int .i64 0, .int .i64 2, .int .i64 0, .int .i64 1, .int .i64 2, .int .i64 1, .int .i64 0] 85)).size (.cells #[.int .i64 1, .int .i64 0, .int .i64 2] 85))
    have C0 := Lib.hid (((Below.refl w2.heap.size w2).alloc (Nat.le_refl _) (.cells #[.int .i64 0, .int .i64 2, .int .i64 1, .int .i64 1, .int .i64 0, .int .i64 2, .int .i64 1, .int .i64 2, .int .i64 0, .int .i64 2, .int .i64 0, .int .i64 1, .int .i64 2, .int .i64 1, .int .i64 0] 85)).alloc (by simp) (.cells #[.int .i64 1, .int .i64 0, .int .i64 2] 85))
    have T1 := Lib.hid ((C0.out.block _ (block_lt R1.out)).trans R1.out)
    have T2 := Lib.hid ((C0.out.block _ (block_lt R2.out)).trans R2.out)
    have TP := heap_alloc_last (w2.alloc (.cells #[.int .i64 0, .int .i64 2, .int .i64 1, .int .i64 1, .int .i64 0, .int .i64 2, .int .i64 1, .int .i64 2, .int .i64 0, .int .i64 2, .int .i64 0, .int .i64 1, .int .i64 2, .int .i64 1, .int .i64 0] 85)) (.cells #[.int .i64 1, .int .i64 0, .int .i64 2] 85)
    rw [World.size_alloc] at TP
    have TP := Lib.hid TP
    clear l0
    go_wp2_with (first
      | (with_reducible refine wpList_load_mid rfl 85 _ rfl w2.heap.size 3 rfl [.int .i64 1, .int .i64 0, .int .i64 2] _ MID.out Try.underlying85 rfl (by rw [r3Size]; rfl) ?_)
      | (with_reducible refine wpList_store_row rfl 85 _ _ rfl (w2.heap.size + 1) _ rfl rfl 85 _ (heap_alloc_last _ _) (r3Size3 _ _ _) (imgSz _ _ _ _ _ _) (r3One _ _ _) ?_; rw [World.setRow_alloc_new]))
    generalize (w2.alloc (.cells #[.int .i64 0, .int .i64 2, .int .i64 1, .int .i64 1, .int .i64 0, .int .i64 2, .int .i64 1, .int .i64 2, .int .i64 0, .int .i64 2, .int .i64 0, .int .i64 1, .int .i64 2, .int .i64 1, .int .i64 0] 85)).alloc (.cells #[.int .i64 1, .int .i64 0, .int .i64 2] 85) = w3 at *
    clear l1
    have m0 := cell_regrown ((cell_of_row w3 _ 0 _ _ (0, 0) TP.out).trans rfl)
    have m1 := cell_regrown ((cell_of_row w3 _ 1 _ _ (0, 0) TP.out).trans rfl)
    have m2 := cell_regrown ((cell_of_row w3 _ 2 _ _ (0, 0) TP.out).trans rfl)
    have k0 := cell_regrown ((cell_of_row w3 _ 0 _ _ (0, 0) T1.out).trans rfl)
    have k1 := cell_regrown ((cell_of_row w3 _ 1 _ _ (0, 0) T1.out).trans rfl)
    have k2 := cell_regrown ((cell_of_row w3 _ 2 _ _ (0, 0) T1.out).trans rfl)
    have k3 := cell_regrown ((cell_of_row w3 _ 3 _ _ (0, 0) T1.out).trans rfl)
    refine wp_region_quiet_tail 15 (by kernel_rfl) (by kernel_rfl) ?_
    simp only [List.take_succ_cons, List.take_zero, List.drop_succ_cons, List.drop_zero]
    repeat (go_big_quiet_step (fail))
    refine wpQuiet_nil ?_
    intro _ hw'
    obtain ⟨⟨dq, osq⟩, hw''⟩ := hw'
    subst hw''
    have hb := below_regrown w3 dq osq
    clear m0 m1 m2 k0 k1 k2 k3
    generalize grow (redrawn w3 dq) osq = w4 at *
    have R4 := Lib.hid ((hb.block _ (block_lt T2.out)).trans T2.out)
    have HB4 := Lib.hid (HB3.out.trans (hb.mono HB3.out.size))
    clear hb
    refine wpList_store_row rfl 92 _ _ rfl (w.heap.size + 1) _ rfl rfl 92 _ R4.out (r4Size4 _ _ _ _) (colSz _ _ _ _ _ _ _ _) (r4One _ _ _ _) ?_
    go_wp2_with fail
    exact bodyPost_ret (v := .agg #[.int .i64 c.g, .int .i64 c.r, .int .i64 c.b, .int .i64 c.a]) (results_cell_row (p := 14) (ty := 92) rfl _ _ (w.heap.size + 1) 92 _ (0, 0) _ rfl (setRow_heap _ _ _ _ _ _ R4.out) Try.underlying92 rfl r4Size) rfl ⟨rfl, below_setRow HB4.out (by omega) _⟩
  · skip
    go_enter Try.func63, Try.ntmps63
    go_wp2_with fail
    have HB := Lib.hid (((Below.refl w.heap.size w).alloc (Nat.le_refl _) (.cells #[.int .i64 c.r, .int .i64 c.g, .int .i64 c.b, .int .i64 c.a] 92)).alloc (by simp) (.cells #[.int .i64 0, .int .i64 0, .int .i64 0, .int .i64 0] 92))
    obtain ⟨q1, q2⟩ := heap2 w (.cells #[.int .i64 c.r, .int .i64 c.g, .int .i64 c.b, .int .i64 c.a] 92) (.cells #[.int .i64 0, .int .i64 0, .int .i64 0, .int .i64 0] 92)
    generalize (w.alloc (.cells #[.int .i64 c.r, .int .i64 c.g, .int .i64 c.b, .int .i64 c.a] 92)).alloc (.cells #[.int .i64 0, .int .i64 0, .int .i64 0, .int .i64 0] 92) = w1 at *
    have Q1 := Lib.hid q1
    have Q2 := Lib.hid q2
    clear q1 q2
    have k0 := cell_regrown ((cell_of_row w1 _ 0 _ _ (0, 0) Q1.out).trans rfl)
    have k1 := cell_regrown ((cell_of_row w1 _ 1 _ _ (0, 0) Q1.out).trans rfl)
    have k2 := cell_regrown ((cell_of_row w1 _ 2 _ _ (0, 0) Q1.out).trans rfl)
    refine wp_region_quiet_below (by kernel_rfl) (by kernel_rfl) ?_
    repeat (go_big_quiet_step (fail))
    refine wpQuiet_nil ?_
    intro _ hw'
    obtain ⟨⟨dq, osq⟩, hw''⟩ := hw'
    subst hw''
    have hb := below_regrown w1 dq osq
    clear k0 k1 k2
    generalize grow (redrawn w1 dq) osq = w2 at *
    have HB2 := Lib.hid (HB.out.trans (hb.mono HB.out.size))
    have R1 := Lib.hid ((hb.block _ (block_lt Q1.out)).trans Q1.out)
    have R2 := Lib.hid ((hb.block _ (block_lt Q2.out)).trans Q2.out)
    clear hb Q1 Q2 HB
    obtain ⟨b, off, rfl, rfl, l0⟩ := args1 (HA.out.below HB2.out)
    have l1 := keep_cell ((Below.refl w2.heap.size w2).alloc (Nat.le_refl _) (.cells #[.int .i64 0, .int .i64 2, .int .i64 1, .int .i64 1, .int .i64 0, .int .i64 2, .int .i64 1, .int .i64 2, .int .i64 0, .int .i64 2, .int .i64 0, .int .i64 1, .int .i64 2, .int .i64 1, .int .i64 0] 85)) l0
    have MID := Lib.hid (tab_mid w2 #[.int .i64 0, .int .i64 2, .int .i64 1, .int .i64 1, .int .i64 0, .int .i64 2, .int .i64 1, .int .i64 2, .int .i64 0, .int .i64 2, .int .i64 0, .int .i64 1, .int .i64 2, .int .i64 1, .int .i64 0] 85 6 _ _ _ rfl rfl rfl)
    have HB3 := Lib.hid ((HB2.out.alloc HB2.out.size (.cells #[.int .i64 0, .int .i64 2, .int .i64 1, .int .i64 1, .int .i64 0, .int .i64 2, .int .i64 1, .int .i64 2, .int .i64 0, .int .i64 2, .int .i64 0, .int .i64 1, .int .i64 2, .int .i64 1, .int .i64 0] 85)).alloc (HB2.out.alloc HB2.out.size (.cells #[.int .i64 0, .int .i64 2, .int .i64 1, .int .i64 1, .int .i64 0, .int .i64 2, .int .i64 1, .int .i64 2, .int .i64 0, .int .i64 2, .int .i64 0, .int .i64 1, .int .i64 2, .int .i64 1, .int .i64 0] 85)).size (.cells #[.int .i64 1, .int .i64 2, .int .i64 0] 85))
    have C0 := Lib.hid (((Below.refl w2.heap.size w2).alloc (Nat.le_refl _) (.cells #[.int .i64 0, .int .i64 2, .int .i64 1, .int .i64 1, .int .i64 0, .int .i64 2, .int .i64 1, .int .i64 2, .int .i64 0, .int .i64 2, .int .i64 0, .int .i64 1, .int .i64 2, .int .i64 1, .int .i64 0] 85)).alloc (by simp) (.cells #[.int .i64 1, .int .i64 2, .int .i64 0] 85))
    have T1 := Lib.hid ((C0.out.block _ (block_lt R1.out)).trans R1.out)
    have T2 := Lib.hid ((C0.out.block _ (block_lt R2.out)).trans R2.out)
    have TP := heap_alloc_last (w2.alloc (.cells #[.int .i64 0, .int .i64 2, .int .i64 1, .int .i64 1, .int .i64 0, .int .i64 2, .int .i64 1, .int .i64 2, .int .i64 0, .int .i64 2, .int .i64 0, .int .i64 1, .int .i64 2, .int .i64 1, .int .i64 0] 85)) (.cells #[.int .i64 1, .int .i64 2, .int .i64 0] 85)
    rw [World.size_alloc] at TP
    have TP := Lib.hid TP
    clear l0
    go_wp2_with (first
      | (with_reducible refine wpList_load_mid rfl 85 _ rfl w2.heap.size 6 rfl [.int .i64 1, .int .i64 2, .int .i64 0] _ MID.out Try.underlying85 rfl (by rw [r3Size]; rfl) ?_)
      | (with_reducible refine wpList_store_row rfl 85 _ _ rfl (w2.heap.size + 1) _ rfl rfl 85 _ (heap_alloc_last _ _) (r3Size3 _ _ _) (imgSz _ _ _ _ _ _) (r3One _ _ _) ?_; rw [World.setRow_alloc_new]))
    generalize (w2.alloc (.cells #[.int .i64 0, .int .i64 2, .int .i64 1, .int .i64 1, .int .i64 0, .int .i64 2, .int .i64 1, .int .i64 2, .int .i64 0, .int .i64 2, .int .i64 0, .int .i64 1, .int .i64 2, .int .i64 1, .int .i64 0] 85)).alloc (.cells #[.int .i64 1, .int .i64 2, .int .i64 0] 85) = w3 at *
    clear l1
    have m0 := cell_regrown ((cell_of_row w3 _ 0 _ _ (0, 0) TP.out).trans rfl)
    have m1 := cell_regrown ((cell_of_row w3 _ 1 _ _ (0, 0) TP.out).trans rfl)
    have m2 := cell_regrown ((cell_of_row w3 _ 2 _ _ (0, 0) TP.out).trans rfl)
    have k0 := cell_regrown ((cell_of_row w3 _ 0 _ _ (0, 0) T1.out).trans rfl)
    have k1 := cell_regrown ((cell_of_row w3 _ 1 _ _ (0, 0) T1.out).trans rfl)
    have k2 := cell_regrown ((cell_of_row w3 _ 2 _ _ (0, 0) T1.out).trans rfl)
    have k3 := cell_regrown ((cell_of_row w3 _ 3 _ _ (0, 0) T1.out).trans rfl)
    refine wp_region_quiet_tail 15 (by kernel_rfl) (by kernel_rfl) ?_
    simp only [List.take_succ_cons, List.take_zero, List.drop_succ_cons, List.drop_zero]
    repeat (go_big_quiet_step (fail))
    refine wpQuiet_nil ?_
    intro _ hw'
    obtain ⟨⟨dq, osq⟩, hw''⟩ := hw'
    subst hw''
    have hb := below_regrown w3 dq osq
    clear m0 m1 m2 k0 k1 k2 k3
    generalize grow (redrawn w3 dq) osq = w4 at *
    have R4 := Lib.hid ((hb.block _ (block_lt T2.out)).trans T2.out)
    have HB4 := Lib.hid (HB3.out.trans (hb.mono HB3.out.size))
    clear hb
    refine wpList_store_row rfl 92 _ _ rfl (w.heap.size + 1) _ rfl rfl 92 _ R4.out (r4Size4 _ _ _ _) (colSz _ _ _ _ _ _ _ _) (r4One _ _ _ _) ?_
    go_wp2_with fail
    exact bodyPost_ret (v := .agg #[.int .i64 c.g, .int .i64 c.b, .int .i64 c.r, .int .i64 c.a]) (results_cell_row (p := 14) (ty := 92) rfl _ _ (w.heap.size + 1) 92 _ (0, 0) _ rfl (setRow_heap _ _ _ _ _ _ R4.out) Try.underlying92 rfl r4Size) rfl ⟨rfl, below_setRow HB4.out (by omega) _⟩
  · skip
    go_enter Try.func63, Try.ntmps63
    go_wp2_with fail
    have HB := Lib.hid (((Below.refl w.heap.size w).alloc (Nat.le_refl _) (.cells #[.int .i64 c.r, .int .i64 c.g, .int .i64 c.b, .int .i64 c.a] 92)).alloc (by simp) (.cells #[.int .i64 0, .int .i64 0, .int .i64 0, .int .i64 0] 92))
    obtain ⟨q1, q2⟩ := heap2 w (.cells #[.int .i64 c.r, .int .i64 c.g, .int .i64 c.b, .int .i64 c.a] 92) (.cells #[.int .i64 0, .int .i64 0, .int .i64 0, .int .i64 0] 92)
    generalize (w.alloc (.cells #[.int .i64 c.r, .int .i64 c.g, .int .i64 c.b, .int .i64 c.a] 92)).alloc (.cells #[.int .i64 0, .int .i64 0, .int .i64 0, .int .i64 0] 92) = w1 at *
    have Q1 := Lib.hid q1
    have Q2 := Lib.hid q2
    clear q1 q2
    have k0 := cell_regrown ((cell_of_row w1 _ 0 _ _ (0, 0) Q1.out).trans rfl)
    have k1 := cell_regrown ((cell_of_row w1 _ 1 _ _ (0, 0) Q1.out).trans rfl)
    have k2 := cell_regrown ((cell_of_row w1 _ 2 _ _ (0, 0) Q1.out).trans rfl)
    refine wp_region_quiet_below (by kernel_rfl) (by kernel_rfl) ?_
    repeat (go_big_quiet_step (fail))
    refine wpQuiet_nil ?_
    intro _ hw'
    obtain ⟨⟨dq, osq⟩, hw''⟩ := hw'
    subst hw''
    have hb := below_regrown w1 dq osq
    clear k0 k1 k2
    generalize grow (redrawn w1 dq) osq = w2 at *
    have HB2 := Lib.hid (HB.out.trans (hb.mono HB.out.size))
    have R1 := Lib.hid ((hb.block _ (block_lt Q1.out)).trans Q1.out)
    have R2 := Lib.hid ((hb.block _ (block_lt Q2.out)).trans Q2.out)
    clear hb Q1 Q2 HB
    obtain ⟨b, off, rfl, rfl, l0⟩ := args1 (HA.out.below HB2.out)
    have l1 := keep_cell ((Below.refl w2.heap.size w2).alloc (Nat.le_refl _) (.cells #[.int .i64 0, .int .i64 2, .int .i64 1, .int .i64 1, .int .i64 0, .int .i64 2, .int .i64 1, .int .i64 2, .int .i64 0, .int .i64 2, .int .i64 0, .int .i64 1, .int .i64 2, .int .i64 1, .int .i64 0] 85)) l0
    have MID := Lib.hid (tab_mid w2 #[.int .i64 0, .int .i64 2, .int .i64 1, .int .i64 1, .int .i64 0, .int .i64 2, .int .i64 1, .int .i64 2, .int .i64 0, .int .i64 2, .int .i64 0, .int .i64 1, .int .i64 2, .int .i64 1, .int .i64 0] 85 9 _ _ _ rfl rfl rfl)
    have HB3 := Lib.hid ((HB2.out.alloc HB2.out.size (.cells #[.int .i64 0, .int .i64 2, .int .i64 1, .int .i64 1, .int .i64 0, .int .i64 2, .int .i64 1, .int .i64 2, .int .i64 0, .int .i64 2, .int .i64 0, .int .i64 1, .int .i64 2, .int .i64 1, .int .i64 0] 85)).alloc (HB2.out.alloc HB2.out.size (.cells #[.int .i64 0, .int .i64 2, .int .i64 1, .int .i64 1, .int .i64 0, .int .i64 2, .int .i64 1, .int .i64 2, .int .i64 0, .int .i64 2, .int .i64 0, .int .i64 1, .int .i64 2, .int .i64 1, .int .i64 0] 85)).size (.cells #[.int .i64 2, .int .i64 0, .int .i64 1] 85))
    have C0 := Lib.hid (((Below.refl w2.heap.size w2).alloc (Nat.le_refl _) (.cells #[.int .i64 0, .int .i64 2, .int .i64 1, .int .i64 1, .int .i64 0, .int .i64 2, .int .i64 1, .int .i64 2, .int .i64 0, .int .i64 2, .int .i64 0, .int .i64 1, .int .i64 2, .int .i64 1, .int .i64 0] 85)).alloc (by simp) (.cells #[.int .i64 2, .int .i64 0, .int .i64 1] 85))
    have T1 := Lib.hid ((C0.out.block _ (block_lt R1.out)).trans R1.out)
    have T2 := Lib.hid ((C0.out.block _ (block_lt R2.out)).trans R2.out)
    have TP := heap_alloc_last (w2.alloc (.cells #[.int .i64 0, .int .i64 2, .int .i64 1, .int .i64 1, .int .i64 0, .int .i64 2, .int .i64 1, .int .i64 2, .int .i64 0, .int .i64 2, .int .i64 0, .int .i64 1, .int .i64 2, .int .i64 1, .int .i64 0] 85)) (.cells #[.int .i64 2, .int .i64 0, .int .i64 1] 85)
    rw [World.size_alloc] at TP
    have TP := Lib.hid TP
    clear l0
    go_wp2_with (first
      | (with_reducible refine wpList_load_mid rfl 85 _ rfl w2.heap.size 9 rfl [.int .i64 2, .int .i64 0, .int .i64 1] _ MID.out Try.underlying85 rfl (by rw [r3Size]; rfl) ?_)
      | (with_reducible refine wpList_store_row rfl 85 _ _ rfl (w2.heap.size + 1) _ rfl rfl 85 _ (heap_alloc_last _ _) (r3Size3 _ _ _) (imgSz _ _ _ _ _ _) (r3One _ _ _) ?_; rw [World.setRow_alloc_new]))
    generalize (w2.alloc (.cells #[.int .i64 0, .int .i64 2, .int .i64 1, .int .i64 1, .int .i64 0, .int .i64 2, .int .i64 1, .int .i64 2, .int .i64 0, .int .i64 2, .int .i64 0, .int .i64 1, .int .i64 2, .int .i64 1, .int .i64 0] 85)).alloc (.cells #[.int .i64 2, .int .i64 0, .int .i64 1] 85) = w3 at *
    clear l1
    have m0 := cell_regrown ((cell_of_row w3 _ 0 _ _ (0, 0) TP.out).trans rfl)
    have m1 := cell_regrown ((cell_of_row w3 _ 1 _ _ (0, 0) TP.out).trans rfl)
    have m2 := cell_regrown ((cell_of_row w3 _ 2 _ _ (0, 0) TP.out).trans rfl)
    have k0 := cell_regrown ((cell_of_row w3 _ 0 _ _ (0, 0) T1.out).trans rfl)
    have k1 := cell_regrown ((cell_of_row w3 _ 1 _ _ (0, 0) T1.out).trans rfl)
    have k2 := cell_regrown ((cell_of_row w3 _ 2 _ _ (0, 0) T1.out).trans rfl)
    have k3 := cell_regrown ((cell_of_row w3 _ 3 _ _ (0, 0) T1.out).trans rfl)
    refine wp_region_quiet_tail 15 (by kernel_rfl) (by kernel_rfl) ?_
    simp only [List.take_succ_cons, List.take_zero, List.drop_succ_cons, List.drop_zero]
    repeat (go_big_quiet_step (fail))
    refine wpQuiet_nil ?_
    intro _ hw'
    obtain ⟨⟨dq, osq⟩, hw''⟩ := hw'
    subst hw''
    have hb := below_regrown w3 dq osq
    clear m0 m1 m2 k0 k1 k2 k3
    generalize grow (redrawn w3 dq) osq = w4 at *
    have R4 := Lib.hid ((hb.block _ (block_lt T2.out)).trans T2.out)
    have HB4 := Lib.hid (HB3.out.trans (hb.mono HB3.out.size))
    clear hb
    refine wpList_store_row rfl 92 _ _ rfl (w.heap.size + 1) _ rfl rfl 92 _ R4.out (r4Size4 _ _ _ _) (colSz _ _ _ _ _ _ _ _) (r4One _ _ _ _) ?_
    go_wp2_with fail
    exact bodyPost_ret (v := .agg #[.int .i64 c.b, .int .i64 c.r, .int .i64 c.g, .int .i64 c.a]) (results_cell_row (p := 14) (ty := 92) rfl _ _ (w.heap.size + 1) 92 _ (0, 0) _ rfl (setRow_heap _ _ _ _ _ _ R4.out) Try.underlying92 rfl r4Size) rfl ⟨rfl, below_setRow HB4.out (by omega) _⟩
  · skip
    go_enter Try.func63, Try.ntmps63
    go_wp2_with fail
    have HB := Lib.hid (((Below.refl w.heap.size w).alloc (Nat.le_refl _) (.cells #[.int .i64 c.r, .int .i64 c.g, .int .i64 c.b, .int .i64 c.a] 92)).alloc (by simp) (.cells #[.int .i64 0, .int .i64 0, .int .i64 0, .int .i64 0] 92))
    obtain ⟨q1, q2⟩ := heap2 w (.cells #[.int .i64 c.r, .int .i64 c.g, .int .i64 c.b, .int .i64 c.a] 92) (.cells #[.int .i64 0, .int .i64 0, .int .i64 0, .int .i64 0] 92)
    generalize (w.alloc (.cells #[.int .i64 c.r, .int .i64 c.g, .int .i64 c.b, .int .i64 c.a] 92)).alloc (.cells #[.int .i64 0, .int .i64 0, .int .i64 0, .int .i64 0] 92) = w1 at *
    have Q1 := Lib.hid q1
    have Q2 := Lib.hid q2
    clear q1 q2
    have k0 := cell_regrown ((cell_of_row w1 _ 0 _ _ (0, 0) Q1.out).trans rfl)
    have k1 := cell_regrown ((cell_of_row w1 _ 1 _ _ (0, 0) Q1.out).trans rfl)
    have k2 := cell_regrown ((cell_of_row w1 _ 2 _ _ (0, 0) Q1.out).trans rfl)
    refine wp_region_quiet_below (by kernel_rfl) (by kernel_rfl) ?_
    repeat (go_big_quiet_step (fail))
    refine wpQuiet_nil ?_
    intro _ hw'
    obtain ⟨⟨dq, osq⟩, hw''⟩ := hw'
    subst hw''
    have hb := below_regrown w1 dq osq
    clear k0 k1 k2
    generalize grow (redrawn w1 dq) osq = w2 at *
    have HB2 := Lib.hid (HB.out.trans (hb.mono HB.out.size))
    have R1 := Lib.hid ((hb.block _ (block_lt Q1.out)).trans Q1.out)
    have R2 := Lib.hid ((hb.block _ (block_lt Q2.out)).trans Q2.out)
    clear hb Q1 Q2 HB
    obtain ⟨b, off, rfl, rfl, l0⟩ := args1 (HA.out.below HB2.out)
    have l1 := keep_cell ((Below.refl w2.heap.size w2).alloc (Nat.le_refl _) (.cells #[.int .i64 0, .int .i64 2, .int .i64 1, .int .i64 1, .int .i64 0, .int .i64 2, .int .i64 1, .int .i64 2, .int .i64 0, .int .i64 2, .int .i64 0, .int .i64 1, .int .i64 2, .int .i64 1, .int .i64 0] 85)) l0
    have MID := Lib.hid (tab_mid w2 #[.int .i64 0, .int .i64 2, .int .i64 1, .int .i64 1, .int .i64 0, .int .i64 2, .int .i64 1, .int .i64 2, .int .i64 0, .int .i64 2, .int .i64 0, .int .i64 1, .int .i64 2, .int .i64 1, .int .i64 0] 85 12 _ _ _ rfl rfl rfl)
    have HB3 := Lib.hid ((HB2.out.alloc HB2.out.size (.cells #[.int .i64 0, .int .i64 2, .int .i64 1, .int .i64 1, .int .i64 0, .int .i64 2, .int .i64 1, .int .i64 2, .int .i64 0, .int .i64 2, .int .i64 0, .int .i64 1, .int .i64 2, .int .i64 1, .int .i64 0] 85)).alloc (HB2.out.alloc HB2.out.size (.cells #[.int .i64 0, .int .i64 2, .int .i64 1, .int .i64 1, .int .i64 0, .int .i64 2, .int .i64 1, .int .i64 2, .int .i64 0, .int .i64 2, .int .i64 0, .int .i64 1, .int .i64 2, .int .i64 1, .int .i64 0] 85)).size (.cells #[.int .i64 2, .int .i64 1, .int .i64 0] 85))
    have C0 := Lib.hid (((Below.refl w2.heap.size w2).alloc (Nat.le_refl _) (.cells #[.int .i64 0, .int .i64 2, .int .i64 1, .int .i64 1, .int .i64 0, .int .i64 2, .int .i64 1, .int .i64 2, .int .i64 0, .int .i64 2, .int .i64 0, .int .i64 1, .int .i64 2, .int .i64 1, .int .i64 0] 85)).alloc (by simp) (.cells #[.int .i64 2, .int .i64 1, .int .i64 0] 85))
    have T1 := Lib.hid ((C0.out.block _ (block_lt R1.out)).trans R1.out)
    have T2 := Lib.hid ((C0.out.block _ (block_lt R2.out)).trans R2.out)
    have TP := heap_alloc_last (w2.alloc (.cells #[.int .i64 0, .int .i64 2, .int .i64 1, .int .i64 1, .int .i64 0, .int .i64 2, .int .i64 1, .int .i64 2, .int .i64 0, .int .i64 2, .int .i64 0, .int .i64 1, .int .i64 2, .int .i64 1, .int .i64 0] 85)) (.cells #[.int .i64 2, .int .i64 1, .int .i64 0] 85)
    rw [World.size_alloc] at TP
    have TP := Lib.hid TP
    clear l0
    go_wp2_with (first
      | (with_reducible refine wpList_load_mid rfl 85 _ rfl w2.heap.size 12 rfl [.int .i64 2, .int .i64 1, .int .i64 0] _ MID.out Try.underlying85 rfl (by rw [r3Size]; rfl) ?_)
      | (with_reducible refine wpList_store_row rfl 85 _ _ rfl (w2.heap.size + 1) _ rfl rfl 85 _ (heap_alloc_last _ _) (r3Size3 _ _ _) (imgSz _ _ _ _ _ _) (r3One _ _ _) ?_; rw [World.setRow_alloc_new]))
    generalize (w2.alloc (.cells #[.int .i64 0, .int .i64 2, .int .i64 1, .int .i64 1, .int .i64 0, .int .i64 2, .int .i64 1, .int .i64 2, .int .i64 0, .int .i64 2, .int .i64 0, .int .i64 1, .int .i64 2, .int .i64 1, .int .i64 0] 85)).alloc (.cells #[.int .i64 2, .int .i64 1, .int .i64 0] 85) = w3 at *
    clear l1
    have m0 := cell_regrown ((cell_of_row w3 _ 0 _ _ (0, 0) TP.out).trans rfl)
    have m1 := cell_regrown ((cell_of_row w3 _ 1 _ _ (0, 0) TP.out).trans rfl)
    have m2 := cell_regrown ((cell_of_row w3 _ 2 _ _ (0, 0) TP.out).trans rfl)
    have k0 := cell_regrown ((cell_of_row w3 _ 0 _ _ (0, 0) T1.out).trans rfl)
    have k1 := cell_regrown ((cell_of_row w3 _ 1 _ _ (0, 0) T1.out).trans rfl)
    have k2 := cell_regrown ((cell_of_row w3 _ 2 _ _ (0, 0) T1.out).trans rfl)
    have k3 := cell_regrown ((cell_of_row w3 _ 3 _ _ (0, 0) T1.out).trans rfl)
    refine wp_region_quiet_tail 15 (by kernel_rfl) (by kernel_rfl) ?_
    simp only [List.take_succ_cons, List.take_zero, List.drop_succ_cons, List.drop_zero]
    repeat (go_big_quiet_step (fail))
    refine wpQuiet_nil ?_
    intro _ hw'
    obtain ⟨⟨dq, osq⟩, hw''⟩ := hw'
    subst hw''
    have hb := below_regrown w3 dq osq
    clear m0 m1 m2 k0 k1 k2 k3
    generalize grow (redrawn w3 dq) osq = w4 at *
    have R4 := Lib.hid ((hb.block _ (block_lt T2.out)).trans T2.out)
    have HB4 := Lib.hid (HB3.out.trans (hb.mono HB3.out.size))
    clear hb
    refine wpList_store_row rfl 92 _ _ rfl (w.heap.size + 1) _ rfl rfl 92 _ R4.out (r4Size4 _ _ _ _) (colSz _ _ _ _ _ _ _ _) (r4One _ _ _ _) ?_
    go_wp2_with fail
    exact bodyPost_ret (v := .agg #[.int .i64 c.b, .int .i64 c.g, .int .i64 c.r, .int .i64 c.a]) (results_cell_row (p := 14) (ty := 92) rfl _ _ (w.heap.size + 1) 92 _ (0, 0) _ rfl (setRow_heap _ _ _ _ _ _ R4.out) Try.underlying92 rfl r4Size) rfl ⟨rfl, below_setRow HB4.out (by omega) _⟩

set_option maxRecDepth 100000 in
set_option maxHeartbeats 3200000 in
theorem refone18 : RefOneAt 18 ⟨#[99, 104, 101, 99, 107, 101, 114]⟩ := by
  intro a c x y wd p n cap w h hc hpl hA
  obtain ⟨hc0, hc1, hc2, hc3⟩ := hc
  obtain ⟨t, rfl, ht⟩ := fit1 (show pm.fitL a [(1, 4096)] from h.1)
  obtain ⟨p1, p2, p3, p4, p5⟩ : 0 ≤ x ∧ x < wd ∧ wd ≤ 65536 ∧ 0 ≤ y ∧ y ≤ 65536 := hpl.resolve_left (by omega)
  have HA := Lib.hid hA
  simp only at ht
  have HV : Hid (pm.res 18 [t] c x y wd = if (x / t + y / t) % 2 = 1 then pm.all 0 [t] c else c) := Lib.hid rfl
  clear hA h hpl
  go_enter Try.func63, Try.ntmps63
  go_wp2_with fail
  have HB := Lib.hid (((Below.refl w.heap.size w).alloc (Nat.le_refl _) (.cells #[.int .i64 c.r, .int .i64 c.g, .int .i64 c.b, .int .i64 c.a] 92)).alloc (by simp) (.cells #[.int .i64 0, .int .i64 0, .int .i64 0, .int .i64 0] 92))
  obtain ⟨q1, q2⟩ := heap2 w (.cells #[.int .i64 c.r, .int .i64 c.g, .int .i64 c.b, .int .i64 c.a] 92) (.cells #[.int .i64 0, .int .i64 0, .int .i64 0, .int .i64 0] 92)
  generalize (w.alloc (.cells #[.int .i64 c.r, .int .i64 c.g, .int .i64 c.b, .int .i64 c.a] 92)).alloc (.cells #[.int .i64 0, .int .i64 0, .int .i64 0, .int .i64 0] 92) = w1 at *
  have Q1 := Lib.hid q1
  have Q2 := Lib.hid q2
  clear q1 q2
  have k0 := cell_regrown ((cell_of_row w1 _ 0 _ _ (0, 0) Q1.out).trans rfl)
  have k1 := cell_regrown ((cell_of_row w1 _ 1 _ _ (0, 0) Q1.out).trans rfl)
  have k2 := cell_regrown ((cell_of_row w1 _ 2 _ _ (0, 0) Q1.out).trans rfl)
  refine wp_region_quiet_below (by kernel_rfl) (by kernel_rfl) ?_
  repeat (go_big_quiet_step (fail))
  refine wpQuiet_nil ?_
  intro _ hw'
  obtain ⟨⟨dq, osq⟩, hw''⟩ := hw'
  subst hw''
  have hb := below_regrown w1 dq osq
  clear k0 k1 k2
  generalize grow (redrawn w1 dq) osq = w2 at *
  have HB2 := Lib.hid (HB.out.trans (hb.mono HB.out.size))
  have R1 := Lib.hid ((hb.block _ (block_lt Q1.out)).trans Q1.out)
  have R2 := Lib.hid ((hb.block _ (block_lt Q2.out)).trans Q2.out)
  clear hb Q1 Q2 HB
  have l0 : ∃ b off, p = some ⟨b, off, none⟩ ∧ n = 1 ∧ w2.cell? ⟨b, off, none⟩ = some (.int .i64 t) := args1 (HA.out.below HB2.out)
  obtain ⟨b, off, rfl, rfl, l0⟩ := l0
  have hx1 : 0 ≤ x / t := Int.ediv_nonneg p1 (by omega)
  have hx2 : x / t ≤ x := Int.ediv_le_self _ p1
  have hy1 : 0 ≤ y / t := Int.ediv_nonneg p4 (by omega)
  have hy2 : y / t ≤ y := Int.ediv_le_self _ p4
  have W1 : x.tdiv t = x / t := Int.tdiv_eq_ediv_of_nonneg p1
  have W2 : y.tdiv t = y / t := Int.tdiv_eq_ediv_of_nonneg p4
  have W3 : IntKind.i64.wrap (x / t) = x / t := IntWalk.i64_in _ (by omega)
  have W4 : IntKind.i64.wrap (y / t) = y / t := IntWalk.i64_in _ (by omega)
  have W5 : IntKind.i64.wrap (x / t + y / t) = x / t + y / t := IntWalk.i64_in _ (by omega)
  have W6 : (x / t + y / t).tmod 2 = (x / t + y / t) % 2 := Int.tmod_eq_emod_of_nonneg (by omega)
  have W7 : (t == 0) = false := by simp; omega
  have W8 : ¬ t = 0 := by omega
  have m0 := cell_regrown l0
  clear l0
  by_cases ho : (x / t + y / t) % 2 = 1
  · have HO := Lib.hid ho
    have z : ((x / t + y / t) % 2 == 0) = false := by simp; omega
    clear ho
    go_wp2_with fail
    refine wp_region_quiet_below (by kernel_rfl) (by kernel_rfl) ?_
    repeat (go_big_quiet_step (fail))
    refine wpQuiet_nil ?_
    intro _ hw'
    obtain ⟨⟨dq, osq⟩, hw''⟩ := hw'
    subst hw''
    have hb := below_regrown w2 dq osq
    clear m0 W1 W2 W3 W4 W5 W6 W7 W8 z
    generalize grow (redrawn w2 dq) osq = w4 at *
    have R3 := Lib.hid ((hb.block _ (block_lt R1.out)).trans R1.out)
    have R4 := Lib.hid ((hb.block _ (block_lt R2.out)).trans R2.out)
    have HB4 := Lib.hid (HB2.out.trans (hb.mono HB2.out.size))
    clear hb
    go_wp2_with fail
    have HBX := HB4
    have RX1 := R3
    have RX2 := R4
    clear HB4 R3 R4 HB2 R1 R2
    go_loopg [22] 3 (fun gk i wr => ∃ j : Nat, j ≤ 3 ∧ gk = 3 - j ∧ i = .int .i64 j ∧ Below w.heap.size w wr ∧ wr.heap[w.heap.size + 1]? = some (.cells #[.int .i64 0, .int .i64 0, .int .i64 0, .int .i64 0] 92) ∧ Sl .i64 wr (some ⟨b, off, none⟩) 1 cap [t] ∧ wr.heap[w.heap.size]? = some (.cells #[.int .i64 (if 0 < j then (pm.smp 0 [t] c.r) else c.r), .int .i64 (if 1 < j then (pm.smp 0 [t] c.g) else c.g), .int .i64 (if 2 < j then (pm.smp 0 [t] c.b) else c.b), .int .i64 c.a] 92))
    case atStart => exact ⟨0, by omega, rfl, rfl, HBX.out, RX2.out, HA.out.below HBX.out, RX1.out⟩
    case round =>
      obtain ⟨j, hj, hg, rfl, hb, hr2, hA, hr1⟩ := hrel
      have Hg := Lib.hid hg
      have Hb := Lib.hid hb
      have Hr2 := Lib.hid hr2
      have HAr := Lib.hid hA
      have Hr1 := Lib.hid hr1
      clear hg hb hr2 hA hr1
      rcases (show j = 0 ∨ j = 1 ∨ j = 2 ∨ j = 3 by omega) with rfl | rfl | rfl | rfl
      · have U1 : Hid (wr.heap[w.heap.size]? = some (.cells #[.int .i64 c.r, .int .i64 c.g, .int .i64 c.b, .int .i64 c.a] 92)) := Lib.hid Hr1.out
        clear Hr1
        have c0 := (cell_of_row wr _ 0 _ _ (0, 0) U1.out).trans rfl
        go_wp2_with fail
        refine (sample0_any [t] c.r (some ⟨b, off, none⟩) 1 cap _ (by omega) (by omega)).mono ?_
        rintro e w5 ⟨rfl, hb5⟩
        have V1 := Lib.hid ((hb5.block _ (block_lt U1.out)).trans U1.out)
        have V2 := Lib.hid ((hb5.block _ (block_lt Hr2.out)).trans Hr2.out)
        have HB5 := Lib.hid (Hb.out.trans (hb5.mono Hb.out.size))
        have HA5 := Lib.hid (HAr.out.below hb5)
        clear hb5 c0
        have c0 := (cell_of_row w5 _ 0 _ _ (0, 0) V1.out).trans rfl
        have f0 := frozen_of_row w5 _ 0 _ _ V1.out
        have Y1 : Hid ((w5.setCell ⟨w.heap.size, 0, none⟩ (.int .i64 (pm.smp 0 [t] c.r))).heap[w.heap.size]? = some (.cells #[.int .i64 (pm.smp 0 [t] c.r), .int .i64 c.g, .int .i64 c.b, .int .i64 c.a] 92)) := Lib.hid (heap_setCell_same w5 w.heap.size 0 _ _ (.int .i64 (pm.smp 0 [t] c.r)) V1.out)
        have Y2 := Lib.hid (grown_block (grownBy_setCell3 w5 w.heap.size 0 (.int .i64 (pm.smp 0 [t] c.r))) V2.out (by intro e; have := Option.some.inj e; omega))
        have Y3 := Lib.hid (HB5.out.setCell (p := ⟨w.heap.size, 0, none⟩) (Nat.le_refl _) (.int .i64 (pm.smp 0 [t] c.r)))
        have Y4 := Lib.hid (HA.out.below Y3.out)
        generalize hsm : (pm.smp 0 [t] c.r) = sv at *
        have HSM := Lib.hid hsm
        clear hsm
        go_wp2_with fail
        go_roundg (3 - (0 + 1))
        case measure => have := Hg.out; omega
        case rel => exact ⟨0 + 1, by omega, by omega, by go_num, Y3.out, Y2.out, Y4.out, Y1.out⟩
      · have U1 : Hid (wr.heap[w.heap.size]? = some (.cells #[.int .i64 (pm.smp 0 [t] c.r), .int .i64 c.g, .int .i64 c.b, .int .i64 c.a] 92)) := Lib.hid Hr1.out
        clear Hr1
        have c0 := (cell_of_row wr _ 1 _ _ (0, 0) U1.out).trans rfl
        go_wp2_with fail
        refine (sample0_any [t] c.g (some ⟨b, off, none⟩) 1 cap _ (by omega) (by omega)).mono ?_
        rintro e w5 ⟨rfl, hb5⟩
        have V1 := Lib.hid ((hb5.block _ (block_lt U1.out)).trans U1.out)
        have V2 := Lib.hid ((hb5.block _ (block_lt Hr2.out)).trans Hr2.out)
        have HB5 := Lib.hid (Hb.out.trans (hb5.mono Hb.out.size))
        have HA5 := Lib.hid (HAr.out.below hb5)
        clear hb5 c0
        have c0 := (cell_of_row w5 _ 1 _ _ (0, 0) V1.out).trans rfl
        have f0 := frozen_of_row w5 _ 1 _ _ V1.out
        have Y1 : Hid ((w5.setCell ⟨w.heap.size, 1, none⟩ (.int .i64 (pm.smp 0 [t] c.g))).heap[w.heap.size]? = some (.cells #[.int .i64 (pm.smp 0 [t] c.r), .int .i64 (pm.smp 0 [t] c.g), .int .i64 c.b, .int .i64 c.a] 92)) := Lib.hid (heap_setCell_same w5 w.heap.size 1 _ _ (.int .i64 (pm.smp 0 [t] c.g)) V1.out)
        have Y2 := Lib.hid (grown_block (grownBy_setCell3 w5 w.heap.size 1 (.int .i64 (pm.smp 0 [t] c.g))) V2.out (by intro e; have := Option.some.inj e; omega))
        have Y3 := Lib.hid (HB5.out.setCell (p := ⟨w.heap.size, 1, none⟩) (Nat.le_refl _) (.int .i64 (pm.smp 0 [t] c.g)))
        have Y4 := Lib.hid (HA.out.below Y3.out)
        generalize hsm : (pm.smp 0 [t] c.g) = sv at *
        have HSM := Lib.hid hsm
        clear hsm
        go_wp2_with fail
        go_roundg (3 - (1 + 1))
        case measure => have := Hg.out; omega
        case rel => exact ⟨1 + 1, by omega, by omega, by go_num, Y3.out, Y2.out, Y4.out, Y1.out⟩
      · have U1 : Hid (wr.heap[w.heap.size]? = some (.cells #[.int .i64 (pm.smp 0 [t] c.r), .int .i64 (pm.smp 0 [t] c.g), .int .i64 c.b, .int .i64 c.a] 92)) := Lib.hid Hr1.out
        clear Hr1
        have c0 := (cell_of_row wr _ 2 _ _ (0, 0) U1.out).trans rfl
        go_wp2_with fail
        refine (sample0_any [t] c.b (some ⟨b, off, none⟩) 1 cap _ (by omega) (by omega)).mono ?_
        rintro e w5 ⟨rfl, hb5⟩
        have V1 := Lib.hid ((hb5.block _ (block_lt U1.out)).trans U1.out)
        have V2 := Lib.hid ((hb5.block _ (block_lt Hr2.out)).trans Hr2.out)
        have HB5 := Lib.hid (Hb.out.trans (hb5.mono Hb.out.size))
        have HA5 := Lib.hid (HAr.out.below hb5)
        clear hb5 c0
        have c0 := (cell_of_row w5 _ 2 _ _ (0, 0) V1.out).trans rfl
        have f0 := frozen_of_row w5 _ 2 _ _ V1.out
        have Y1 : Hid ((w5.setCell ⟨w.heap.size, 2, none⟩ (.int .i64 (pm.smp 0 [t] c.b))).heap[w.heap.size]? = some (.cells #[.int .i64 (pm.smp 0 [t] c.r), .int .i64 (pm.smp 0 [t] c.g), .int .i64 (pm.smp 0 [t] c.b), .int .i64 c.a] 92)) := Lib.hid (heap_setCell_same w5 w.heap.size 2 _ _ (.int .i64 (pm.smp 0 [t] c.b)) V1.out)
        have Y2 := Lib.hid (grown_block (grownBy_setCell3 w5 w.heap.size 2 (.int .i64 (pm.smp 0 [t] c.b))) V2.out (by intro e; have := Option.some.inj e; omega))
        have Y3 := Lib.hid (HB5.out.setCell (p := ⟨w.heap.size, 2, none⟩) (Nat.le_refl _) (.int .i64 (pm.smp 0 [t] c.b)))
        have Y4 := Lib.hid (HA.out.below Y3.out)
        generalize hsm : (pm.smp 0 [t] c.b) = sv at *
        have HSM := Lib.hid hsm
        clear hsm
        go_wp2_with fail
        go_roundg (3 - (2 + 1))
        case measure => have := Hg.out; omega
        case rel => exact ⟨2 + 1, by omega, by omega, by go_num, Y3.out, Y2.out, Y4.out, Y1.out⟩
      · have U1 : Hid (wr.heap[w.heap.size]? = some (.cells #[.int .i64 (pm.smp 0 [t] c.r), .int .i64 (pm.smp 0 [t] c.g), .int .i64 (pm.smp 0 [t] c.b), .int .i64 c.a] 92)) := Lib.hid Hr1.out
        clear Hr1
        go_wp2_with (first | (with_reducible refine wpList_load_row rfl 92 _ rfl w.heap.size rfl 92 _ (0, 0) _ (U1.out) Try.underlying92 rfl (r4Size4 _ _ _ _) ?_) | (with_reducible refine wpList_store_row rfl 92 _ _ rfl (w.heap.size + 1) _ rfl rfl 92 _ Hr2.out (r4Size4 _ _ _ _) (colSz _ _ _ _ _ _ _ _) (r4One _ _ _ _) ?_))
        exact bodyPost_ret (v := .agg #[.int .i64 (pm.smp 0 [t] c.r), .int .i64 (pm.smp 0 [t] c.g), .int .i64 (pm.smp 0 [t] c.b), .int .i64 c.a]) (results_cell_row (p := 14) (ty := 92) rfl _ _ (w.heap.size + 1) 92 _ (0, 0) _ rfl (setRow_heap _ _ _ _ _ _ Hr2.out) Try.underlying92 rfl r4Size) rfl ⟨by rw [HV.out, if_pos HO.out]; rfl, below_setRow Hb.out (by omega) _⟩
  · have HO := Lib.hid ho
    have z0 : (x / t + y / t) % 2 = 0 := by omega
    have z : ((x / t + y / t) % 2 == 0) = true := by simp; omega
    clear ho z0
    go_wp2_with fail
    refine wp_region_quiet_below (by kernel_rfl) (by kernel_rfl) ?_
    repeat (go_big_quiet_step (fail))
    refine wpQuiet_nil ?_
    intro _ hw'
    obtain ⟨⟨dq, osq⟩, hw''⟩ := hw'
    subst hw''
    have hb := below_regrown w2 dq osq
    clear m0 W1 W2 W3 W4 W5 W6 W7 W8 z
    generalize grow (redrawn w2 dq) osq = w4 at *
    have R3 := Lib.hid ((hb.block _ (block_lt R1.out)).trans R1.out)
    have R4 := Lib.hid ((hb.block _ (block_lt R2.out)).trans R2.out)
    have HB4 := Lib.hid (HB2.out.trans (hb.mono HB2.out.size))
    clear hb
    go_wp2_with (first | (with_reducible refine wpList_load_row rfl 92 _ rfl w.heap.size rfl 92 _ (0, 0) _ (R3.out) Try.underlying92 rfl (r4Size4 _ _ _ _) ?_) | (with_reducible refine wpList_store_row rfl 92 _ _ rfl (w.heap.size + 1) _ rfl rfl 92 _ R4.out (r4Size4 _ _ _ _) (colSz _ _ _ _ _ _ _ _) (r4One _ _ _ _) ?_))
    exact bodyPost_ret (v := .agg #[.int .i64 c.r, .int .i64 c.g, .int .i64 c.b, .int .i64 c.a]) (results_cell_row (p := 14) (ty := 92) rfl _ _ (w.heap.size + 1) 92 _ (0, 0) _ rfl (setRow_heap _ _ _ _ _ _ R4.out) Try.underlying92 rfl r4Size) rfl ⟨by rw [HV.out, if_neg HO.out]; rfl, below_setRow HB4.out (by omega) _⟩

theorem nm_lit : ∀ k, k < 20 → pm.nm k = (pm.names.getD k ⟨#[]⟩) := fun _ _ => rfl
/-- WHAT THE REFERENCE's 'one' ANSWERS -/
theorem refone_any (k : Nat) (hk : k < 20) : RefOneAt k (pm.nm k) := by
  match k, hk with
  | 0, _ => exact refone0
  | 1, _ => exact refone1
  | 2, _ => exact refone2
  | 3, _ => exact refone3
  | 4, _ => exact refone4
  | 5, _ => exact refone5
  | 6, _ => exact refone6
  | 7, _ => exact refone7
  | 8, _ => exact refone8
  | 9, _ => exact refone9
  | 10, _ => exact refone10
  | 11, _ => exact refone11
  | 12, _ => exact refone12
  | 13, _ => exact refone13
  | 14, _ => exact refone14
  | 15, _ => exact refone15
  | 16, _ => exact refone16
  | 17, _ => exact refone17
  | 18, _ => exact refone18
  | 19, _ => exact refone19
  | n + 20, h => exact absurd h (by omega)
end Go.Proofs.Ytdemndjenlhahaa
