/- The reference's 'one', by operator: tint, flatten, checker. -/
import Derived.Test.YtdemndjenlhahaaRefO
import Derived.Test.YtdemndjenlhahaaTwiceMath
namespace Go.Proofs.Ytdemndjenlhahaa
open Go.RowKit Go.Sort
theorem pm.tint_range {s x t : Int} (hs : 0 ≤ s ∧ s ≤ 65535) (hx : 0 ≤ x ∧ x ≤ 65535) (ht : 0 ≤ t ∧ t ≤ 256) : (-16776960 ≤ (x - s) * t ∧ (x - s) * t ≤ 16776960) ∧ 0 ≤ s + (x - s) * t / 256 ∧ s + (x - s) * t / 256 ≤ 65535 := by
  rcases Int.lt_or_le x s with h | h
  · have h1 : (x - s) * t ≤ 0 := Int.mul_nonpos_of_nonpos_of_nonneg (by omega) ht.1
    have h2 : (x - s) * 256 ≤ (x - s) * t := Int.mul_le_mul_of_nonpos_left (by omega) ht.2
    omega
  · have h1 := pm.mul_range (x := x - s) (y := t) (A := x - s) (B := 256) (by omega) ht
    omega
theorem pm.flat_range {s x a : Int} (hs : 0 ≤ s ∧ s ≤ 65535) (hx : 0 ≤ x ∧ x ≤ 65535) (ha : 0 ≤ a ∧ a ≤ 65535) : (0 ≤ s * a ∧ s * a ≤ 4294836225) ∧ (0 ≤ x * (65535 - a) ∧ x * (65535 - a) ≤ 4294836225) ∧ 0 ≤ (s * a + x * (65535 - a) + 32767) / 65535 ∧ (s * a + x * (65535 - a) + 32767) / 65535 ≤ 65535 := by
  have h1 := pm.mul_range (x := s) (y := a) (A := 65535) (B := a) hs ⟨ha.1, by omega⟩
  have h2 := pm.mul_range (x := x) (y := 65535 - a) (A := 65535) (B := 65535 - a) hx ⟨by omega, by omega⟩
  omega

set_option maxRecDepth 100000 in
set_option maxHeartbeats 3200000 in
theorem refone13 : RefOneAt 13 ⟨#[116, 105, 110, 116]⟩ := by
  intro a c x y wd p n cap w h hc hpl hA
  obtain ⟨hc0, hc1, hc2, hc3⟩ := hc
  obtain ⟨x0, x1, x2, t, rfl, h0, h1, h2, h3⟩ := fit4 (show pm.fitL a [(0, 65535), (0, 65535), (0, 65535), (0, 256)] from h.1)
  simp only at h0 h1 h2 h3
  have HV : Hid (pm.res 13 [x0, x1, x2, t] c x y wd = ⟨(c.r + (x0 - c.r) * t / 256), (c.g + (x1 - c.g) * t / 256), (c.b + (x2 - c.b) * t / 256), c.a⟩) := Lib.hid (C4.eq (pm.clamp_id (pm.tint_range hc0 h0 h3).2) (pm.clamp_id (pm.tint_range hc1 h1 h3).2) (pm.clamp_id (pm.tint_range hc2 h2 h3).2) rfl)
  obtain ⟨b, off, rfl, rfl, l0, l1, l2, l3⟩ := args4 hA
  clear hA h hpl
  go_enter Try.func63, Try.ntmps63
  go_wp2_with fail
  have HB := Lib.hid (((Below.refl w.heap.size w).alloc (Nat.le_refl _) (.cells #[.int .i64 c.r, .int .i64 c.g, .int .i64 c.b, .int .i64 c.a] 92)).alloc (by simp) (.cells #[.int .i64 0, .int .i64 0, .int .i64 0, .int .i64 0] 92))
  obtain ⟨q1, q2⟩ := heap2 w (.cells #[.int .i64 c.r, .int .i64 c.g, .int .i64 c.b, .int .i64 c.a] 92) (.cells #[.int .i64 0, .int .i64 0, .int .i64 0, .int .i64 0] 92)
  generalize (w.alloc (.cells #[.int .i64 c.r, .int .i64 c.g, .int .i64 c.b, .int .i64 c.a] 92)).alloc (.cells #[.int .i64 0, .int .i64 0, .int .i64 0, .int .i64 0] 92) = w1 at *
  have Q1 := Lib.hid q1
  have Q2 := Lib.hid q2
  clear q1 q2
  have k0 := cell_regrown ((cell_of_row w1 _ 0 _ _ (0, 0) Q1.out).trans rfl)
  have k1 := cell_regrown ((cell_of_row w1 _ 1 _ _ (0, 0) Q1.out).trans rfl)
  have k2 := cell_regrown ((cell_of_row w1 _ 2 _ _ (0, 0) Q1.out).trans rfl)
  refine wp_region_quiet_below (by kernel_rfl) (by kernel_rfl) ?_
  repeat (go_big_quiet_step (fail))
  refine wpQuiet_nil ?_
  intro _ hw'
  obtain ⟨⟨dq, osq⟩, hw''⟩ := hw'
  subst hw''
  have hb := below_regrown w1 dq osq
  clear k0 k1 k2
  generalize grow (redrawn w1 dq) osq = w2 at *
  have HB2 := Lib.hid (HB.out.trans (hb.mono HB.out.size))
  have R1 := Lib.hid ((hb.block _ (block_lt Q1.out)).trans Q1.out)
  have R2 := Lib.hid ((hb.block _ (block_lt Q2.out)).trans Q2.out)
  clear hb Q1 Q2 HB
  go_wp2_with fail
  go_loopg [20] 3 (fun gk i wr => ∃ j : Nat, j ≤ 3 ∧ gk = 3 - j ∧ i = .int .i64 j ∧ Below w.heap.size w wr ∧ wr.heap[w.heap.size + 1]? = some (.cells #[.int .i64 0, .int .i64 0, .int .i64 0, .int .i64 0] 92) ∧ wr.heap[w.heap.size]? = some (.cells #[.int .i64 (if 0 < j then (c.r + (x0 - c.r) * t / 256) else c.r), .int .i64 (if 1 < j then (c.g + (x1 - c.g) * t / 256) else c.g), .int .i64 (if 2 < j then (c.b + (x2 - c.b) * t / 256) else c.b), .int .i64 c.a] 92))
  case atStart => exact ⟨0, by omega, rfl, rfl, HB2.out, R2.out, R1.out⟩
  case round =>
    obtain ⟨j, hj, hg, rfl, hb, hr2, hr1⟩ := hrel
    have Hg := Lib.hid hg
    have Hb := Lib.hid hb
    have Hr2 := Lib.hid hr2
    have Hr1 := Lib.hid hr1
    clear hg hb hr2 hr1
    rcases (show j = 0 ∨ j = 1 ∨ j = 2 ∨ j = 3 by omega) with rfl | rfl | rfl | rfl
    · have U1 : Hid (wr.heap[w.heap.size]? = some (.cells #[.int .i64 c.r, .int .i64 c.g, .int .i64 c.b, .int .i64 c.a] 92)) := Lib.hid Hr1.out
      clear Hr1
      have r0 := keep_cell Hb.out l0
      have r3 := keep_cell Hb.out l3
      have m0 := cell_regrown r0
      have m3 := cell_regrown r3
      have k0 := cell_regrown ((cell_of_row wr _ 0 _ _ (0, 0) U1.out).trans rfl)
      have hr := pm.tint_range (s := c.r) (x := x0) (t := t) (by omega) (by omega) (by omega)
      have W1 : IntKind.i64.wrap (x0 - c.r) = x0 - c.r := IntWalk.i64_in _ (by omega)
      have W2 : IntKind.i64.wrap ((x0 - c.r) * t) = (x0 - c.r) * t := IntWalk.i64_in _ (by omega)
      have W3 : IntKind.i64.wrap (c.r + (x0 - c.r) * t / 256) = c.r + (x0 - c.r) * t / 256 := IntWalk.i64_in _ (by omega)
      have CO : Hid (∀ d os, Calls Try.prog 70 #[.int .i64 ((x0 - c.r) * t), .int .i64 256] (grow (redrawn wr d) os) fun e w'' => e = .returned (.int .i64 ((x0 - c.r) * t / 256)) ∧ ∃ p : Regrown, w'' = grow (redrawn wr p.d) p.os) := Lib.hid (fun d os => Calls.regrown_of (below_of (refOver_any _ _ _ (by omega) (by omega) (by omega) (by omega))))
      clear r0 r3
      go_wp2_with fail
      refine wp_region_quiet_tail 18 (by kernel_rfl) (by kernel_rfl) ?_
      simp only [List.take_succ_cons, List.take_zero, List.drop_succ_cons, List.drop_zero]
      repeat (go_big_quiet_step (exact CO.out _ _))
      refine wpQuiet_nil ?_
      intro _ hw'
      obtain ⟨⟨dq, osq⟩, hw''⟩ := hw'
      subst hw''
      have hb5 := below_regrown wr dq osq
      clear m0 m3 k0 W1 W2 W3
      generalize grow (redrawn wr dq) osq = w5 at *
      have V1 := Lib.hid ((hb5.block _ (block_lt U1.out)).trans U1.out)
      have V2 := Lib.hid ((hb5.block _ (block_lt Hr2.out)).trans Hr2.out)
      have HB5 := Lib.hid (Hb.out.trans (hb5.mono Hb.out.size))
      clear hb5
      have c0 := (cell_of_row w5 _ 0 _ _ (0, 0) V1.out).trans rfl
      have f0 := frozen_of_row w5 _ 0 _ _ V1.out
      have Y1 : Hid ((w5.setCell ⟨w.heap.size, 0, none⟩ (.int .i64 ((c.r + (x0 - c.r) * t / 256)))).heap[w.heap.size]? = some (.cells #[.int .i64 (c.r + (x0 - c.r) * t / 256), .int .i64 c.g, .int .i64 c.b, .int .i64 c.a] 92)) := Lib.hid (heap_setCell_same w5 w.heap.size 0 _ _ (.int .i64 ((c.r + (x0 - c.r) * t / 256))) V1.out)
      have Y2 := Lib.hid (grown_block (grownBy_setCell3 w5 w.heap.size 0 (.int .i64 ((c.r + (x0 - c.r) * t / 256)))) V2.out (by intro e; have := Option.some.inj e; omega))
      have Y3 := Lib.hid (HB5.out.setCell (p := ⟨w.heap.size, 0, none⟩) (Nat.le_refl _) (.int .i64 ((c.r + (x0 - c.r) * t / 256))))
      go_wp2_with fail
      go_roundg (3 - (0 + 1))
      case measure => have := Hg.out; omega
      case rel => exact ⟨0 + 1, by omega, by omega, by go_num, Y3.out, Y2.out, Y1.out⟩
    · have U1 : Hid (wr.heap[w.heap.size]? = some (.cells #[.int .i64 (c.r + (x0 - c.r) * t / 256), .int .i64 c.g, .int .i64 c.b, .int .i64 c.a] 92)) := Lib.hid Hr1.out
      clear Hr1
      have r0 := keep_cell Hb.out l1
      have r3 := keep_cell Hb.out l3
      have m0 := cell_regrown r0
      have m3 := cell_regrown r3
      have k0 := cell_regrown ((cell_of_row wr _ 1 _ _ (0, 0) U1.out).trans rfl)
      have hr := pm.tint_range (s := c.g) (x := x1) (t := t) (by omega) (by omega) (by omega)
      have W1 : IntKind.i64.wrap (x1 - c.g) = x1 - c.g := IntWalk.i64_in _ (by omega)
      have W2 : IntKind.i64.wrap ((x1 - c.g) * t) = (x1 - c.g) * t := IntWalk.i64_in _ (by omega)
      have W3 : IntKind.i64.wrap (c.g + (x1 - c.g) * t / 256) = c.g + (x1 - c.g) * t / 256 := IntWalk.i64_in _ (by omega)
      have CO : Hid (∀ d os, Calls Try.prog 70 #[.int .i64 ((x1 - c.g) * t), .int .i64 256] (grow (redrawn wr d) os) fun e w'' => e = .returned (.int .i64 ((x1 - c.g) * t / 256)) ∧ ∃ p : Regrown, w'' = grow (redrawn wr p.d) p.os) := Lib.hid (fun d os => Calls.regrown_of (below_of (refOver_any _ _ _ (by omega) (by omega) (by omega) (by omega))))
      clear r0 r3
      go_wp2_with fail
      refine wp_region_quiet_tail 18 (by kernel_rfl) (by kernel_rfl) ?_
      simp only [List.take_succ_cons, List.take_zero, List.drop_succ_cons, List.drop_zero]
      repeat (go_big_quiet_step (exact CO.out _ _))
      refine wpQuiet_nil ?_
      intro _ hw'
      obtain ⟨⟨dq, osq⟩, hw''⟩ := hw'
      subst hw''
      have hb5 := below_regrown wr dq osq
      clear m0 m3 k0 W1 W2 W3
      generalize grow (redrawn wr dq) osq = w5 at *
      have V1 := Lib.hid ((hb5.block _ (block_lt U1.out)).trans U1.out)
      have V2 := Lib.hid ((hb5.block _ (block_lt Hr2.out)).trans Hr2.out)
      have HB5 := Lib.hid (Hb.out.trans (hb5.mono Hb.out.size))
      clear hb5
      have c0 := (cell_of_row w5 _ 1 _ _ (0, 0) V1.out).trans rfl
      have f0 := frozen_of_row w5 _ 1 _ _ V1.out
      have Y1 : Hid ((w5.setCell ⟨w.heap.size, 1, none⟩ (.int .i64 ((c.g + (x1 - c.g) * t / 256)))).heap[w.heap.size]? = some (.cells #[.int .i64 (c.r + (x0 - c.r) * t / 256), .int .i64 (c.g + (x1 - c.g) * t / 256), .int .i64 c.b, .int .i64 c.a] 92)) := Lib.hid (heap_setCell_same w5 w.heap.size 1 _ _ (.int .i64 ((c.g + (x1 - c.g) * t / 256))) V1.out)
      have Y2 := Lib.hid (grown_block (grownBy_setCell3 w5 w.heap.size 1 (.int .i64 ((c.g + (x1 - c.g) * t / 256)))) V2.out (by intro e; have := Option.some.inj e; omega))
      have Y3 := Lib.hid (HB5.out.setCell (p := ⟨w.heap.size, 1, none⟩) (Nat.le_refl _) (.int .i64 ((c.g + (x1 - c.g) * t / 256))))
      go_wp2_with fail
      go_roundg (3 - (1 + 1))
      case measure => have := Hg.out; omega
      case rel => exact ⟨1 + 1, by omega, by omega, by go_num, Y3.out, Y2.out, Y1.out⟩
    · have U1 : Hid (wr.heap[w.heap.size]? = some (.cells #[.int .i64 (c.r + (x0 - c.r) * t / 256), .int .i64 (c.g + (x1 - c.g) * t / 256), .int .i64 c.b, .int .i64 c.a] 92)) := Lib.hid Hr1.out
      clear Hr1
      have r0 := keep_cell Hb.out l2
      have r3 := keep_cell Hb.out l3
      have m0 := cell_regrown r0
      have m3 := cell_regrown r3
      have k0 := cell_regrown ((cell_of_row wr _ 2 _ _ (0, 0) U1.out).trans rfl)
      have hr := pm.tint_range (s := c.b) (x := x2) (t := t) (by omega) (by omega) (by omega)
      have W1 : IntKind.i64.wrap (x2 - c.b) = x2 - c.b := IntWalk.i64_in _ (by omega)
      have W2 : IntKind.i64.wrap ((x2 - c.b) * t) = (x2 - c.b) * t := IntWalk.i64_in _ (by omega)
      have W3 : IntKind.i64.wrap (c.b + (x2 - c.b) * t / 256) = c.b + (x2 - c.b) * t / 256 := IntWalk.i64_in _ (by omega)
      have CO : Hid (∀ d os, Calls Try.prog 70 #[.int .i64 ((x2 - c.b) * t), .int .i64 256] (grow (redrawn wr d) os) fun e w'' => e = .returned (.int .i64 ((x2 - c.b) * t / 256)) ∧ ∃ p : Regrown, w'' = grow (redrawn wr p.d) p.os) := Lib.hid (fun d os => Calls.regrown_of (below_of (refOver_any _ _ _ (by omega) (by omega) (by omega) (by omega))))
      clear r0 r3
      go_wp2_with fail
      refine wp_region_quiet_tail 18 (by kernel_rfl) (by kernel_rfl) ?_
      simp only [List.take_succ_cons, List.take_zero, List.drop_succ_cons, List.drop_zero]
      repeat (go_big_quiet_step (exact CO.out _ _))
      refine wpQuiet_nil ?_
      intro _ hw'
      obtain ⟨⟨dq, osq⟩, hw''⟩ := hw'
      subst hw''
      have hb5 := below_regrown wr dq osq
      clear m0 m3 k0 W1 W2 W3
      generalize grow (redrawn wr dq) osq = w5 at *
      have V1 := Lib.hid ((hb5.block _ (block_lt U1.out)).trans U1.out)
      have V2 := Lib.hid ((hb5.block _ (block_lt Hr2.out)).trans Hr2.out)
      have HB5 := Lib.hid (Hb.out.trans (hb5.mono Hb.out.size))
      clear hb5
      have c0 := (cell_of_row w5 _ 2 _ _ (0, 0) V1.out).trans rfl
      have f0 := frozen_of_row w5 _ 2 _ _ V1.out
      have Y1 : Hid ((w5.setCell ⟨w.heap.size, 2, none⟩ (.int .i64 ((c.b + (x2 - c.b) * t / 256)))).heap[w.heap.size]? = some (.cells #[.int .i64 (c.r + (x0 - c.r) * t / 256), .int .i64 (c.g + (x1 - c.g) * t / 256), .int .i64 (c.b + (x2 - c.b) * t / 256), .int .i64 c.a] 92)) := Lib.hid (heap_setCell_same w5 w.heap.size 2 _ _ (.int .i64 ((c.b + (x2 - c.b) * t / 256))) V1.out)
      have Y2 := Lib.hid (grown_block (grownBy_setCell3 w5 w.heap.size 2 (.int .i64 ((c.b + (x2 - c.b) * t / 256)))) V2.out (by intro e; have := Option.some.inj e; omega))
      have Y3 := Lib.hid (HB5.out.setCell (p := ⟨w.heap.size, 2, none⟩) (Nat.le_refl _) (.int .i64 ((c.b + (x2 - c.b) * t / 256))))
      go_wp2_with fail
      go_roundg (3 - (2 + 1))
      case measure => have := Hg.out; omega
      case rel => exact ⟨2 + 1, by omega, by omega, by go_num, Y3.out, Y2.out, Y1.out⟩
    · have U1 : Hid (wr.heap[w.heap.size]? = some (.cells #[.int .i64 (c.r + (x0 - c.r) * t / 256), .int .i64 (c.g + (x1 - c.g) * t / 256), .int .i64 (c.b + (x2 - c.b) * t / 256), .int .i64 c.a] 92)) := Lib.hid Hr1.out
      clear Hr1
      go_wp2_with (first | (with_reducible refine wpList_load_row rfl 92 _ rfl w.heap.size rfl 92 _ (0, 0) _ (U1.out) Try.underlying92 rfl (r4Size4 _ _ _ _) ?_) | (with_reducible refine wpList_store_row rfl 92 _ _ rfl (w.heap.size + 1) _ rfl rfl 92 _ Hr2.out (r4Size4 _ _ _ _) (colSz _ _ _ _ _ _ _ _) (r4One _ _ _ _) ?_))
      exact bodyPost_ret (v := .agg #[.int .i64 (c.r + (x0 - c.r) * t / 256), .int .i64 (c.g + (x1 - c.g) * t / 256), .int .i64 (c.b + (x2 - c.b) * t / 256), .int .i64 c.a]) (results_cell_row (p := 14) (ty := 92) rfl _ _ (w.heap.size + 1) 92 _ (0, 0) _ rfl (setRow_heap _ _ _ _ _ _ Hr2.out) Try.underlying92 rfl r4Size) rfl ⟨by rw [HV.out]; rfl, below_setRow Hb.out (by omega) _⟩

set_option maxRecDepth 100000 in
set_option maxHeartbeats 3200000 in
theorem refone16 : RefOneAt 16 ⟨#[102, 108, 97, 116, 116, 101, 110]⟩ := by
  intro a c x y wd p n cap w h hc hpl hA
  obtain ⟨hc0, hc1, hc2, hc3⟩ := hc
  obtain ⟨x0, x1, x2, rfl, h0, h1, h2⟩ := fit3 (show pm.fitL a [(0, 65535), (0, 65535), (0, 65535)] from h.1)
  simp only at h0 h1 h2
  have HV : Hid (pm.res 16 [x0, x1, x2] c x y wd = ⟨((c.r * c.a + x0 * (65535 - c.a) + 32767) / 65535), ((c.g * c.a + x1 * (65535 - c.a) + 32767) / 65535), ((c.b * c.a + x2 * (65535 - c.a) + 32767) / 65535), 65535⟩) := Lib.hid (C4.eq (pm.clamp_id (pm.flat_range hc0 h0 hc3).2.2) (pm.clamp_id (pm.flat_range hc1 h1 hc3).2.2) (pm.clamp_id (pm.flat_range hc2 h2 hc3).2.2) rfl)
  obtain ⟨b, off, rfl, rfl, l0, l1, l2⟩ := args3 hA
  clear hA h hpl
  go_enter Try.func63, Try.ntmps63
  go_wp2_with fail
  have HB := Lib.hid (((Below.refl w.heap.size w).alloc (Nat.le_refl _) (.cells #[.int .i64 c.r, .int .i64 c.g, .int .i64 c.b, .int .i64 c.a] 92)).alloc (by simp) (.cells #[.int .i64 0, .int .i64 0, .int .i64 0, .int .i64 0] 92))
  obtain ⟨q1, q2⟩ := heap2 w (.cells #[.int .i64 c.r, .int .i64 c.g, .int .i64 c.b, .int .i64 c.a] 92) (.cells #[.int .i64 0, .int .i64 0, .int .i64 0, .int .i64 0] 92)
  generalize (w.alloc (.cells #[.int .i64 c.r, .int .i64 c.g, .int .i64 c.b, .int .i64 c.a] 92)).alloc (.cells #[.int .i64 0, .int .i64 0, .int .i64 0, .int .i64 0] 92) = w1 at *
  have Q1 := Lib.hid q1
  have Q2 := Lib.hid q2
  clear q1 q2
  have k0 := cell_regrown ((cell_of_row w1 _ 0 _ _ (0, 0) Q1.out).trans rfl)
  have k1 := cell_regrown ((cell_of_row w1 _ 1 _ _ (0, 0) Q1.out).trans rfl)
  have k2 := cell_regrown ((cell_of_row w1 _ 2 _ _ (0, 0) Q1.out).trans rfl)
  refine wp_region_quiet_below (by kernel_rfl) (by kernel_rfl) ?_
  repeat (go_big_quiet_step (fail))
  refine wpQuiet_nil ?_
  intro _ hw'
  obtain ⟨⟨dq, osq⟩, hw''⟩ := hw'
  subst hw''
  have hb := below_regrown w1 dq osq
  clear k0 k1 k2
  generalize grow (redrawn w1 dq) osq = w2 at *
  have HB2 := Lib.hid (HB.out.trans (hb.mono HB.out.size))
  have R1 := Lib.hid ((hb.block _ (block_lt Q1.out)).trans Q1.out)
  have R2 := Lib.hid ((hb.block _ (block_lt Q2.out)).trans Q2.out)
  clear hb Q1 Q2 HB
  go_wp2_with fail
  go_loopg [21] 3 (fun gk i wr => ∃ j : Nat, j ≤ 3 ∧ gk = 3 - j ∧ i = .int .i64 j ∧ Below w.heap.size w wr ∧ wr.heap[w.heap.size + 1]? = some (.cells #[.int .i64 0, .int .i64 0, .int .i64 0, .int .i64 0] 92) ∧ wr.heap[w.heap.size]? = some (.cells #[.int .i64 (if 0 < j then ((c.r * c.a + x0 * (65535 - c.a) + 32767) / 65535) else c.r), .int .i64 (if 1 < j then ((c.g * c.a + x1 * (65535 - c.a) + 32767) / 65535) else c.g), .int .i64 (if 2 < j then ((c.b * c.a + x2 * (65535 - c.a) + 32767) / 65535) else c.b), .int .i64 c.a] 92))
  case atStart => exact ⟨0, by omega, rfl, rfl, HB2.out, R2.out, R1.out⟩
  case round =>
    obtain ⟨j, hj, hg, rfl, hb, hr2, hr1⟩ := hrel
    have Hg := Lib.hid hg
    have Hb := Lib.hid hb
    have Hr2 := Lib.hid hr2
    have Hr1 := Lib.hid hr1
    clear hg hb hr2 hr1
    rcases (show j = 0 ∨ j = 1 ∨ j = 2 ∨ j = 3 by omega) with rfl | rfl | rfl | rfl
    · have U1 : Hid (wr.heap[w.heap.size]? = some (.cells #[.int .i64 c.r, .int .i64 c.g, .int .i64 c.b, .int .i64 c.a] 92)) := Lib.hid Hr1.out
      clear Hr1
      have r0 := keep_cell Hb.out l0
      have m0 := cell_regrown r0
      have k0 := cell_regrown ((cell_of_row wr _ 0 _ _ (0, 0) U1.out).trans rfl)
      have k3 := cell_regrown ((cell_of_row wr _ 3 _ _ (0, 0) U1.out).trans rfl)
      have hr := pm.flat_range (s := c.r) (x := x0) (a := c.a) (by omega) (by omega) (by omega)
      have W1 : IntKind.i64.wrap (c.r * c.a) = c.r * c.a := IntWalk.i64_in _ (by omega)
      have W2 : IntKind.i64.wrap (65535 - c.a) = 65535 - c.a := IntWalk.i64_in _ (by omega)
      have W3 : IntKind.i64.wrap (x0 * (65535 - c.a)) = x0 * (65535 - c.a) := IntWalk.i64_in _ (by omega)
      have W4 : IntKind.i64.wrap (c.r * c.a + x0 * (65535 - c.a)) = c.r * c.a + x0 * (65535 - c.a) := IntWalk.i64_in _ (by omega)
      have W5 : IntKind.i64.wrap (c.r * c.a + x0 * (65535 - c.a) + 32767) = c.r * c.a + x0 * (65535 - c.a) + 32767 := IntWalk.i64_in _ (by omega)
      have W6 : (c.r * c.a + x0 * (65535 - c.a) + 32767).tdiv 65535 = (c.r * c.a + x0 * (65535 - c.a) + 32767) / 65535 := Int.tdiv_eq_ediv_of_nonneg (by omega)
      have W7 : IntKind.i64.wrap ((c.r * c.a + x0 * (65535 - c.a) + 32767) / 65535) = (c.r * c.a + x0 * (65535 - c.a) + 32767) / 65535 := IntWalk.i64_in _ (by omega)
      clear r0
      go_wp2_with fail
      refine wp_region_quiet_tail 19 (by kernel_rfl) (by kernel_rfl) ?_
      simp only [List.take_succ_cons, List.take_zero, List.drop_succ_cons, List.drop_zero]
      repeat (go_big_quiet_step (fail))
      refine wpQuiet_nil ?_
      intro _ hw'
      obtain ⟨⟨dq, osq⟩, hw''⟩ := hw'
      subst hw''
      have hb5 := below_regrown wr dq osq
      clear m0 k0 k3 W1 W2 W3 W4 W5 W6 W7
      generalize grow (redrawn wr dq) osq = w5 at *
      have V1 := Lib.hid ((hb5.block _ (block_lt U1.out)).trans U1.out)
      have V2 := Lib.hid ((hb5.block _ (block_lt Hr2.out)).trans Hr2.out)
      have HB5 := Lib.hid (Hb.out.trans (hb5.mono Hb.out.size))
      clear hb5
      have c0 := (cell_of_row w5 _ 0 _ _ (0, 0) V1.out).trans rfl
      have f0 := frozen_of_row w5 _ 0 _ _ V1.out
      have Y1 : Hid ((w5.setCell ⟨w.heap.size, 0, none⟩ (.int .i64 (((c.r * c.a + x0 * (65535 - c.a) + 32767) / 65535)))).heap[w.heap.size]? = some (.cells #[.int .i64 ((c.r * c.a + x0 * (65535 - c.a) + 32767) / 65535), .int .i64 c.g, .int .i64 c.b, .int .i64 c.a] 92)) := Lib.hid (heap_setCell_same w5 w.heap.size 0 _ _ (.int .i64 (((c.r * c.a + x0 * (65535 - c.a) + 32767) / 65535))) V1.out)
      have Y2 := Lib.hid (grown_block (grownBy_setCell3 w5 w.heap.size 0 (.int .i64 (((c.r * c.a + x0 * (65535 - c.a) + 32767) / 65535)))) V2.out (by intro e; have := Option.some.inj e; omega))
      have Y3 := Lib.hid (HB5.out.setCell (p := ⟨w.heap.size, 0, none⟩) (Nat.le_refl _) (.int .i64 (((c.r * c.a + x0 * (65535 - c.a) + 32767) / 65535))))
      go_wp2_with fail
      go_roundg (3 - (0 + 1))
      case measure => have := Hg.out; omega
      case rel => exact ⟨0 + 1, by omega, by omega, by go_num, Y3.out, Y2.out, Y1.out⟩
    · have U1 : Hid (wr.heap[w.heap.size]? = some (.cells #[.int .i64 ((c.r * c.a + x0 * (65535 - c.a) + 32767) / 65535), .int .i64 c.g, .int .i64 c.b, .int .i64 c.a] 92)) := Lib.hid Hr1.out
      clear Hr1
      have r0 := keep_cell Hb.out l1
      have m0 := cell_regrown r0
      have k0 := cell_regrown ((cell_of_row wr _ 1 _ _ (0, 0) U1.out).trans rfl)
      have k3 := cell_regrown ((cell_of_row wr _ 3 _ _ (0, 0) U1.out).trans rfl)
      have hr := pm.flat_range (s := c.g) (x := x1) (a := c.a) (by omega) (by omega) (by omega)
      have W1 : IntKind.i64.wrap (c.g * c.a) = c.g * c.a := IntWalk.i64_in _ (by omega)
      have W2 : IntKind.i64.wrap (65535 - c.a) = 65535 - c.a := IntWalk.i64_in _ (by omega)
      have W3 : IntKind.i64.wrap (x1 * (65535 - c.a)) = x1 * (65535 - c.a) := IntWalk.i64_in _ (by omega)
      have W4 : IntKind.i64.wrap (c.g * c.a + x1 * (65535 - c.a)) = c.g * c.a + x1 * (65535 - c.a) := IntWalk.i64_in _ (by omega)
      have W5 : IntKind.i64.wrap (c.g * c.a + x1 * (65535 - c.a) + 32767) = c.g * c.a + x1 * (65535 - c.a) + 32767 := IntWalk.i64_in _ (by omega)
      have W6 : (c.g * c.a + x1 * (65535 - c.a) + 32767).tdiv 65535 = (c.g * c.a + x1 * (65535 - c.a) + 32767) / 65535 := Int.tdiv_eq_ediv_of_nonneg (by omega)
      have W7 : IntKind.i64.wrap ((c.g * c.a + x1 * (65535 - c.a) + 32767) / 65535) = (c.g * c.a + x1 * (65535 - c.a) + 32767) / 65535 := IntWalk.i64_in _ (by omega)
      clear r0
      go_wp2_with fail
      refine wp_region_quiet_tail 19 (by kernel_rfl) (by kernel_rfl) ?_
      simp only [List.take_succ_cons, List.take_zero, List.drop_succ_cons, List.drop_zero]
      repeat (go_big_quiet_step (fail))
      refine wpQuiet_nil ?_
      intro _ hw'
      obtain ⟨⟨dq, osq⟩, hw''⟩ := hw'
      subst hw''
      have hb5 := below_regrown wr dq osq
      clear m0 k0 k3 W1 W2 W3 W4 W5 W6 W7
      generalize grow (redrawn wr dq) osq = w5 at *
      have V1 := Lib.hid ((hb5.block _ (block_lt U1.out)).trans U1.out)
      have V2 := Lib.hid ((hb5.block _ (block_lt Hr2.out)).trans Hr2.out)
      have HB5 := Lib.hid (Hb.out.trans (hb5.mono Hb.out.size))
      clear hb5
      have c0 := (cell_of_row w5 _ 1 _ _ (0, 0) V1.out).trans rfl
      have f0 := frozen_of_row w5 _ 1 _ _ V1.out
      have Y1 : Hid ((w5.setCell ⟨w.heap.size, 1, none⟩ (.int .i64 (((c.g * c.a + x1 * (65535 - c.a) + 32767) / 65535)))).heap[w.heap.size]? = some (.cells #[.int .i64 ((c.r * c.a + x0 * (65535 - c.a) + 32767) / 65535), .int .i64 ((c.g * c.a + x1 * (65535 - c.a) + 32767) / 65535), .int .i64 c.b, .int .i64 c.a] 92)) := Lib.hid (heap_setCell_same w5 w.heap.size 1 _ _ (.int .i64 (((c.g * c.a + x1 * (65535 - c.a) + 32767) / 65535))) V1.out)
      have Y2 := Lib.hid (grown_block (grownBy_setCell3 w5 w.heap.size 1 (.int .i64 (((c.g * c.a + x1 * (65535 - c.a) + 32767) / 65535)))) V2.out (by intro e; have := Option.some.inj e; omega))
      have Y3 := Lib.hid (HB5.out.setCell (p := ⟨w.heap.size, 1, none⟩) (Nat.le_refl _) (.int .i64 (((c.g * c.a + x1 * (65535 - c.a) + 32767) / 65535))))
      go_wp2_with fail
      go_roundg (3 - (1 + 1))
      case measure => have := Hg.out; omega
      case rel => exact ⟨1 + 1, by omega, by omega, by go_num, Y3.out, Y2.out, Y1.out⟩
    · have U1 : Hid (wr.heap[w.heap.size]? = some (.cells #[.int .i64 ((c.r * c.a + x0 * (65535 - c.a) + 32767) / 65535), .int .i64 ((c.g * c.a + x1 * (65535 - c.a) + 32767) / 65535), .int .i64 c.b, .int .i64 c.a] 92)) := Lib.hid Hr1.out
      clear Hr1
      have r0 := keep_cell Hb.out l2
      have m0 := cell_regrown r0
      have k0 := cell_regrown ((cell_of_row wr _ 2 _ _ (0, 0) U1.out).trans rfl)
      have k3 := cell_regrown ((cell_of_row wr _ 3 _ _ (0, 0) U1.out).trans rfl)
      have hr := pm.flat_range (s := c.b) (x := x2) (a := c.a) (by omega) (by omega) (by omega)
      have W1 : IntKind.i64.wrap (c.b * c.a) = c.b * c.a := IntWalk.i64_in _ (by omega)
      have W2 : IntKind.i64.wrap (65535 - c.a) = 65535 - c.a := IntWalk.i64_in _ (by omega)
      have W3 : IntKind.i64.wrap (x2 * (65535 - c.a)) = x2 * (65535 - c.a) := IntWalk.i64_in _ (by omega)
      have W4 : IntKind.i64.wrap (c.b * c.a + x2 * (65535 - c.a)) = c.b * c.a + x2 * (65535 - c.a) := IntWalk.i64_in _ (by omega)
      have W5 : IntKind.i64.wrap (c.b * c.a + x2 * (65535 - c.a) + 32767) = c.b * c.a + x2 * (65535 - c.a) + 32767 := IntWalk.i64_in _ (by omega)
      have W6 : (c.b * c.a + x2 * (65535 - c.a) + 32767).tdiv 65535 = (c.b * c.a + x2 * (65535 - c.a) + 32767) / 65535 := Int.tdiv_eq_ediv_of_nonneg (by omega)
      have W7 : IntKind.i64.wrap ((c.b * c.a + x2 * (65535 - c.a) + 32767) / 65535) = (c.b * c.a + x2 * (65535 - c.a) + 32767) / 65535 := IntWalk.i64_in _ (by omega)
      clear r0
      go_wp2_with fail
      refine wp_region_quiet_tail 19 (by kernel_rfl) (by kernel_rfl) ?_
      simp only [List.take_succ_cons, List.take_zero, List.drop_succ_cons, List.drop_zero]
      repeat (go_big_quiet_step (fail))
      refine wpQuiet_nil ?_
      intro _ hw'
      obtain ⟨⟨dq, osq⟩, hw''⟩ := hw'
      subst hw''
      have hb5 := below_regrown wr dq osq
      clear m0 k0 k3 W1 W2 W3 W4 W5 W6 W7
      generalize grow (redrawn wr dq) osq = w5 at *
      have V1 := Lib.hid ((hb5.block _ (block_lt U1.out)).trans U1.out)
      have V2 := Lib.hid ((hb5.block _ (block_lt Hr2.out)).trans Hr2.out)
      have HB5 := Lib.hid (Hb.out.trans (hb5.mono Hb.out.size))
      clear hb5
      have c0 := (cell_of_row w5 _ 2 _ _ (0, 0) V1.out).trans rfl
      have f0 := frozen_of_row w5 _ 2 _ _ V1.out
      have Y1 : Hid ((w5.setCell ⟨w.heap.size, 2, none⟩ (.int .i64 (((c.b * c.a + x2 * (65535 - c.a) + 32767) / 65535)))).heap[w.heap.size]? = some (.cells #[.int .i64 ((c.r * c.a + x0 * (65535 - c.a) + 32767) / 65535), .int .i64 ((c.g * c.a + x1 * (65535 - c.a) + 32767) / 65535), .int .i64 ((c.b * c.a + x2 * (65535 - c.a) + 32767) / 65535), .int .i64 c.a] 92)) := Lib.hid (heap_setCell_same w5 w.heap.size 2 _ _ (.int .i64 (((c.b * c.a + x2 * (65535 - c.a) + 32767) / 65535))) V1.out)
      have Y2 := Lib.hid (grown_block (grownBy_setCell3 w5 w.heap.size 2 (.int .i64 (((c.b * c.a + x2 * (65535 - c.a) + 32767) / 65535)))) V2.out (by intro e; have := Option.some.inj e; omega))
      have Y3 := Lib.hid (HB5.out.setCell (p := ⟨w.heap.size, 2, none⟩) (Nat.le_refl _) (.int .i64 (((c.b * c.a + x2 * (65535 - c.a) + 32767) / 65535))))
      go_wp2_with fail
      go_roundg (3 - (2 + 1))
      case measure => have := Hg.out; omega
      case rel => exact ⟨2 + 1, by omega, by omega, by go_num, Y3.out, Y2.out, Y1.out⟩
    · have U1 : Hid (wr.heap[w.heap.size]? = some (.cells #[.int .i64 ((c.r * c.a + x0 * (65535 - c.a) + 32767) / 65535), .int .i64 ((c.g * c.a + x1 * (65535 - c.a) + 32767) / 65535), .int .i64 ((c.b * c.a + x2 * (65535 - c.a) + 32767) / 65535), .int .i64 c.a] 92)) := Lib.hid Hr1.out
      clear Hr1
      have j3 := (cell_of_row wr _ 3 _ _ (0, 0) U1.out).trans rfl
      have f3 := frozen_of_row wr _ 3 _ _ U1.out
      have S1 : Hid ((wr.setCell ⟨w.heap.size, 3, none⟩ (.int .i64 65535)).heap[w.heap.size]? = some (.cells #[.int .i64 ((c.r * c.a + x0 * (65535 - c.a) + 32767) / 65535), .int .i64 ((c.g * c.a + x1 * (65535 - c.a) + 32767) / 65535), .int .i64 ((c.b * c.a + x2 * (65535 - c.a) + 32767) / 65535), .int .i64 65535] 92)) := Lib.hid (heap_setCell_same wr w.heap.size 3 _ _ (.int .i64 65535) U1.out)
      have S2 := Lib.hid (grown_block (grownBy_setCell3 wr w.heap.size 3 (.int .i64 65535)) Hr2.out (by intro e; have := Option.some.inj e; omega))
      go_wp2_with (first | (with_reducible refine wpList_load_row rfl 92 _ rfl w.heap.size rfl 92 _ (0, 0) _ (S1.out) Try.underlying92 rfl (r4Size4 _ _ _ _) ?_) | (with_reducible refine wpList_store_row rfl 92 _ _ rfl (w.heap.size + 1) _ rfl rfl 92 _ S2.out (r4Size4 _ _ _ _) (colSz _ _ _ _ _ _ _ _) (r4One _ _ _ _) ?_))
      exact bodyPost_ret (v := .agg #[.int .i64 ((c.r * c.a + x0 * (65535 - c.a) + 32767) / 65535), .int .i64 ((c.g * c.a + x1 * (65535 - c.a) + 32767) / 65535), .int .i64 ((c.b * c.a + x2 * (65535 - c.a) + 32767) / 65535), .int .i64 65535]) (results_cell_row (p := 14) (ty := 92) rfl _ _ (w.heap.size + 1) 92 _ (0, 0) _ rfl (setRow_heap _ _ _ _ _ _ S2.out) Try.underlying92 rfl r4Size) rfl ⟨by rw [HV.out]; rfl, below_setRow (Hb.out.setCell (p := ⟨w.heap.size, 3, none⟩) (Nat.le_refl _) _) (by omega) _⟩

set_option maxRecDepth 100000 in
set_option maxHeartbeats 3200000 in
theorem refone17 : RefOneAt 17 ⟨#[107, 101, 121]⟩ := by
  intro a c x y wd p n cap w h hc hpl hA
  obtain ⟨hc0, hc1, hc2, hc3⟩ := hc
  obtain ⟨x0, x1, x2, t, rfl, h0, h1, h2, h3⟩ := fit4 (show pm.fitL a [(0, 65535), (0, 65535), (0, 65535), (0, 65535)] from h.1)
  have HA := Lib.hid hA
  simp only at h0 h1 h2 h3
  have HV : Hid (pm.res 17 [x0, x1, x2, t] c x y wd = if pm.nearTo [x0, x1, x2, t] c then ⟨c.r, c.g, c.b, 0⟩ else c) := Lib.hid rfl
  have HN : Hid (pm.nearTo [x0, x1, x2, t] c ↔ pm.dist c.r x0 ≤ t ∧ pm.dist c.g x1 ≤ t ∧ pm.dist c.b x2 ≤ t) := Lib.hid Iff.rfl
  clear hA h hpl
  go_enter Try.func63, Try.ntmps63
  go_wp2_with fail
  have HB := Lib.hid (((Below.refl w.heap.size w).alloc (Nat.le_refl _) (.cells #[.int .i64 c.r, .int .i64 c.g, .int .i64 c.b, .int .i64 c.a] 92)).alloc (by simp) (.cells #[.int .i64 0, .int .i64 0, .int .i64 0, .int .i64 0] 92))
  obtain ⟨q1, q2⟩ := heap2 w (.cells #[.int .i64 c.r, .int .i64 c.g, .int .i64 c.b, .int .i64 c.a] 92) (.cells #[.int .i64 0, .int .i64 0, .int .i64 0, .int .i64 0] 92)
  generalize (w.alloc (.cells #[.int .i64 c.r, .int .i64 c.g, .int .i64 c.b, .int .i64 c.a] 92)).alloc (.cells #[.int .i64 0, .int .i64 0, .int .i64 0, .int .i64 0] 92) = w1 at *
  have Q1 := Lib.hid q1
  have Q2 := Lib.hid q2
  clear q1 q2
  have k0 := cell_regrown ((cell_of_row w1 _ 0 _ _ (0, 0) Q1.out).trans rfl)
  have k1 := cell_regrown ((cell_of_row w1 _ 1 _ _ (0, 0) Q1.out).trans rfl)
  have k2 := cell_regrown ((cell_of_row w1 _ 2 _ _ (0, 0) Q1.out).trans rfl)
  refine wp_region_quiet_below (by kernel_rfl) (by kernel_rfl) ?_
  repeat (go_big_quiet_step (fail))
  refine wpQuiet_nil ?_
  intro _ hw'
  obtain ⟨⟨dq, osq⟩, hw''⟩ := hw'
  subst hw''
  have hb := below_regrown w1 dq osq
  clear k0 k1 k2
  generalize grow (redrawn w1 dq) osq = w2 at *
  have HB2 := Lib.hid (HB.out.trans (hb.mono HB.out.size))
  have R1 := Lib.hid ((hb.block _ (block_lt Q1.out)).trans Q1.out)
  have R2 := Lib.hid ((hb.block _ (block_lt Q2.out)).trans Q2.out)
  clear hb Q1 Q2 HB
  obtain ⟨b, off, rfl, rfl, l0, l1, l2, l3⟩ := args4 (HA.out.below HB2.out)
  have CF : Hid (∀ u v d os, (-65535 ≤ u ∧ u ≤ 65535) → (-65535 ≤ v ∧ v ≤ 65535) → Calls Try.prog 71 #[.int .i64 u, .int .i64 v] (grow (redrawn w2 d) os) fun e w'' => e = .returned (.int .i64 (pm.dist u v)) ∧ ∃ p : Regrown, w'' = grow (redrawn w2 p.d) p.os) := Lib.hid (fun u v d os h h' => Calls.regrown_of (below_of (reffar_any _ _ _ h h')))
  have m0 := cell_regrown l0
  have m1 := cell_regrown l1
  have m2 := cell_regrown l2
  have m3 := cell_regrown l3
  clear l0 l1 l2 l3
  have S1 : Hid (∀ w4 : World, w4.heap[w.heap.size]? = some (.cells #[.int .i64 c.r, .int .i64 c.g, .int .i64 c.b, .int .i64 c.a] 92) → (w4.setCell ⟨w.heap.size, 3, none⟩ (.int .i64 0)).heap[w.heap.size]? = some (.cells #[.int .i64 c.r, .int .i64 c.g, .int .i64 c.b, .int .i64 0] 92)) := Lib.hid (fun w4 h4 => heap_setCell_same w4 w.heap.size 3 _ _ (.int .i64 0) h4)
  rcases (show (pm.dist c.r x0 ≤ t ∧ pm.dist c.g x1 ≤ t ∧ pm.dist c.b x2 ≤ t) ∨ (¬ pm.dist c.r x0 ≤ t) ∨ (pm.dist c.r x0 ≤ t ∧ ¬ pm.dist c.g x1 ≤ t) ∨ (pm.dist c.r x0 ≤ t ∧ pm.dist c.g x1 ≤ t ∧ ¬ pm.dist c.b x2 ≤ t) by omega) with ⟨h0', h1', h2'⟩ | h0' | ⟨h0', h1'⟩ | ⟨h0', h1', h2'⟩
  · have HNR : Hid (pm.nearTo [x0, x1, x2, t] c) := Lib.hid (HN.out.2 ⟨h0', h1', h2'⟩)
    have z0 : decide (pm.dist c.r x0 ≤ t) = true := decide_eq_true h0'
    have z1 : decide (pm.dist c.g x1 ≤ t) = true := decide_eq_true h1'
    have z2 : decide (pm.dist c.b x2 ≤ t) = true := decide_eq_true h2'
    clear h0' h1' h2'
    go_wp2_with fail
    refine wp_region_quiet_below (by kernel_rfl) (by kernel_rfl) ?_
    repeat (go_big_quiet_step (exact CF.out _ _ _ _ (by omega) (by omega)))
    refine wpQuiet_nil ?_
    intro _ hw'
    obtain ⟨⟨dq, osq⟩, hw''⟩ := hw'
    subst hw''
    have hb := below_regrown w2 dq osq
    clear m0 m1 m2 m3 z0 z1 z2
    generalize grow (redrawn w2 dq) osq = w4 at *
    have R3 := Lib.hid ((hb.block _ (block_lt R1.out)).trans R1.out)
    have R4 := Lib.hid ((hb.block _ (block_lt R2.out)).trans R2.out)
    have HB4 := Lib.hid (HB2.out.trans (hb.mono HB2.out.size))
    clear hb
    have j3 := (cell_of_row w4 _ 3 _ _ (0, 0) R3.out).trans rfl
    have f3 := frozen_of_row w4 _ 3 _ _ R3.out
    have T1 := Lib.hid (S1.out w4 R3.out)
    have T2 := Lib.hid (grown_block (grownBy_setCell3 w4 w.heap.size 3 (.int .i64 0)) R4.out (by intro e; have := Option.some.inj e; omega))
    go_wp2_with (first | (with_reducible refine wpList_load_row rfl 92 _ rfl w.heap.size rfl 92 _ (0, 0) _ (T1.out) Try.underlying92 rfl (r4Size4 _ _ _ _) ?_) | (with_reducible refine wpList_store_row rfl 92 _ _ rfl (w.heap.size + 1) _ rfl rfl 92 _ T2.out (r4Size4 _ _ _ _) (colSz _ _ _ _ _ _ _ _) (r4One _ _ _ _) ?_))
    exact bodyPost_ret (v := .agg #[.int .i64 c.r, .int .i64 c.g, .int .i64 c.b, .int .i64 0]) (results_cell_row (p := 14) (ty := 92) rfl _ _ (w.heap.size + 1) 92 _ (0, 0) _ rfl (setRow_heap _ _ _ _ _ _ T2.out) Try.underlying92 rfl r4Size) rfl ⟨by rw [HV.out, if_pos HNR.out]; rfl, below_setRow (HB4.out.setCell (p := ⟨w.heap.size, 3, none⟩) (Nat.le_refl _) _) (by omega) _⟩
  · have HNR : Hid (¬ pm.nearTo [x0, x1, x2, t] c) := Lib.hid (fun h => h0' (HN.out.1 h).1)
    have z0 : decide (pm.dist c.r x0 ≤ t) = false := decide_eq_false h0'
    clear h0'
    go_wp2_with fail
    refine wp_region_quiet_below (by kernel_rfl) (by kernel_rfl) ?_
    repeat (go_big_quiet_step (exact CF.out _ _ _ _ (by omega) (by omega)))
    refine wpQuiet_nil ?_
    intro _ hw'
    obtain ⟨⟨dq, osq⟩, hw''⟩ := hw'
    subst hw''
    have hb := below_regrown w2 dq osq
    clear m0 m1 m2 m3 z0
    generalize grow (redrawn w2 dq) osq = w4 at *
    have R3 := Lib.hid ((hb.block _ (block_lt R1.out)).trans R1.out)
    have R4 := Lib.hid ((hb.block _ (block_lt R2.out)).trans R2.out)
    have HB4 := Lib.hid (HB2.out.trans (hb.mono HB2.out.size))
    clear hb
    go_wp2_with (first | (with_reducible refine wpList_load_row rfl 92 _ rfl w.heap.size rfl 92 _ (0, 0) _ (R3.out) Try.underlying92 rfl (r4Size4 _ _ _ _) ?_) | (with_reducible refine wpList_store_row rfl 92 _ _ rfl (w.heap.size + 1) _ rfl rfl 92 _ R4.out (r4Size4 _ _ _ _) (colSz _ _ _ _ _ _ _ _) (r4One _ _ _ _) ?_))
    exact bodyPost_ret (v := .agg #[.int .i64 c.r, .int .i64 c.g, .int .i64 c.b, .int .i64 c.a]) (results_cell_row (p := 14) (ty := 92) rfl _ _ (w.heap.size + 1) 92 _ (0, 0) _ rfl (setRow_heap _ _ _ _ _ _ R4.out) Try.underlying92 rfl r4Size) rfl ⟨by rw [HV.out, if_neg HNR.out]; rfl, below_setRow HB4.out (by omega) _⟩
  · have HNR : Hid (¬ pm.nearTo [x0, x1, x2, t] c) := Lib.hid (fun h => h1' (HN.out.1 h).2.1)
    have z0 : decide (pm.dist c.r x0 ≤ t) = true := decide_eq_true h0'
    have z1 : decide (pm.dist c.g x1 ≤ t) = false := decide_eq_false h1'
    clear h0' h1'
    go_wp2_with fail
    refine wp_region_quiet_below (by kernel_rfl) (by kernel_rfl) ?_
    repeat (go_big_quiet_step (exact CF.out _ _ _ _ (by omega) (by omega)))
    refine wpQuiet_nil ?_
    intro _ hw'
    obtain ⟨⟨dq, osq⟩, hw''⟩ := hw'
    subst hw''
    have hb := below_regrown w2 dq osq
    clear m0 m1 m2 m3 z0 z1
    generalize grow (redrawn w2 dq) osq = w4 at *
    have R3 := Lib.hid ((hb.block _ (block_lt R1.out)).trans R1.out)
    have R4 := Lib.hid ((hb.block _ (block_lt R2.out)).trans R2.out)
    have HB4 := Lib.hid (HB2.out.trans (hb.mono HB2.out.size))
    clear hb
    go_wp2_with (first | (with_reducible refine wpList_load_row rfl 92 _ rfl w.heap.size rfl 92 _ (0, 0) _ (R3.out) Try.underlying92 rfl (r4Size4 _ _ _ _) ?_) | (with_reducible refine wpList_store_row rfl 92 _ _ rfl (w.heap.size + 1) _ rfl rfl 92 _ R4.out (r4Size4 _ _ _ _) (colSz _ _ _ _ _ _ _ _) (r4One _ _ _ _) ?_))
    exact bodyPost_ret (v := .agg #[.int .i64 c.r, .int .i64 c.g, .int .i64 c.b, .int .i64 c.a]) (results_cell_row (p := 14) (ty := 92) rfl _ _ (w.heap.size + 1) 92 _ (0, 0) _ rfl (setRow_heap _ _ _ _ _ _ R4.out) Try.underlying92 rfl r4Size) rfl ⟨by rw [HV.out, if_neg HNR.out]; rfl, below_setRow HB4.out (by omega) _⟩
  · have HNR : Hid (¬ pm.nearTo [x0, x1, x2, t] c) := Lib.hid (fun h => h2' (HN.out.1 h).2.2)
    have z0 : decide (pm.dist c.r x0 ≤ t) = true := decide_eq_true h0'
    have z1 : decide (pm.dist c.g x1 ≤ t) = true := decide_eq_true h1'
    have z2 : decide (pm.dist c.b x2 ≤ t) = false := decide_eq_false h2'
    clear h0' h1' h2'
    go_wp2_with fail
    refine wp_region_quiet_below (by kernel_rfl) (by kernel_rfl) ?_
    repeat (go_big_quiet_step (exact CF.out _ _ _ _ (by omega) (by omega)))
    refine wpQuiet_nil ?_
    intro _ hw'
    obtain ⟨⟨dq, osq⟩, hw''⟩ := hw'
    subst hw''
    have hb := below_regrown w2 dq osq
    clear m0 m1 m2 m3 z0 z1 z2
    generalize grow (redrawn w2 dq) osq = w4 at *
    have R3 := Lib.hid ((hb.block _ (block_lt R1.out)).trans R1.out)
    have R4 := Lib.hid ((hb.block _ (block_lt R2.out)).trans R2.out)
    have HB4 := Lib.hid (HB2.out.trans (hb.mono HB2.out.size))
    clear hb
    go_wp2_with (first | (with_reducible refine wpList_load_row rfl 92 _ rfl w.heap.size rfl 92 _ (0, 0) _ (R3.out) Try.underlying92 rfl (r4Size4 _ _ _ _) ?_) | (with_reducible refine wpList_store_row rfl 92 _ _ rfl (w.heap.size + 1) _ rfl rfl 92 _ R4.out (r4Size4 _ _ _ _) (colSz _ _ _ _ _ _ _ _) (r4One _ _ _ _) ?_))
    exact bodyPost_ret (v := .agg #[.int .i64 c.r, .int .i64 c.g, .int .i64 c.b, .int .i64 c.a]) (results_cell_row (p := 14) (ty := 92) rfl _ _ (w.heap.size + 1) 92 _ (0, 0) _ rfl (setRow_heap _ _ _ _ _ _ R4.out) Try.underlying92 rfl r4Size) rfl ⟨by rw [HV.out, if_neg HNR.out]; rfl, below_setRow HB4.out (by omega) _⟩
end Go.Proofs.Ytdemndjenlhahaa
