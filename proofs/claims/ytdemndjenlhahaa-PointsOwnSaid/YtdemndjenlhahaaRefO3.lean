/- The reference's 'one', by operator: those that go by samples. -/
import Derived.Test.YtdemndjenlhahaaRefO
namespace Go.Proofs.Ytdemndjenlhahaa
open Go.RowKit Go.Sort

set_option maxRecDepth 100000 in
set_option maxHeartbeats 3200000 in
theorem refone0 : RefOneAt 0 ⟨#[105, 110, 118, 101, 114, 116]⟩ := by
  intro a c x y wd p n cap w h hc hpl hA
  obtain ⟨hc0, hc1, hc2, hc3⟩ := hc
  have HA := Lib.hid hA
  have HK := Lib.hid h
  have HV : Hid (pm.res 0 a c x y wd = pm.all 0 a c) := Lib.hid rfl
  clear hA h hpl
  go_enter Try.func63, Try.ntmps63
  go_wp2_with fail
  have HB := Lib.hid (((Below.refl w.heap.size w).alloc (Nat.le_refl _) (.cells #[.int .i64 c.r, .int .i64 c.g, .int .i64 c.b, .int .i64 c.a] 92)).alloc (by simp) (.cells #[.int .i64 0, .int .i64 0, .int .i64 0, .int .i64 0] 92))
  obtain ⟨q1, q2⟩ := heap2 w (.cells #[.int .i64 c.r, .int .i64 c.g, .int .i64 c.b, .int .i64 c.a] 92) (.cells #[.int .i64 0, .int .i64 0, .int .i64 0, .int .i64 0] 92)
  generalize (w.alloc (.cells #[.int .i64 c.r, .int .i64 c.g, .int .i64 c.b, .int .i64 c.a] 92)).alloc (.cells #[.int .i64 0, .int .i64 0, .int .i64 0, .int .i64 0] 92) = w1 at *
  have Q1 := Lib.hid q1
  have Q2 := Lib.hid q2
  clear q1 q2
  have k0 := cell_regrown ((cell_of_row w1 _ 0 _ _ (0, 0) Q1.out).trans rfl)
  have k1 := cell_regrown ((cell_of_row w1 _ 1 _ _ (0, 0) Q1.out).trans rfl)
  have k2 := cell_regrown ((cell_of_row w1 _ 2 _ _ (0, 0) Q1.out).trans rfl)
  refine wp_region_quiet_below (by kernel_rfl) (by kernel_rfl) ?_
  repeat (go_big_quiet_step (fail))
  refine wpQuiet_nil ?_
  intro _ hw'
  obtain ⟨⟨dq, osq⟩, hw''⟩ := hw'
  subst hw''
  have hb := below_regrown w1 dq osq
  clear k0 k1 k2
  generalize grow (redrawn w1 dq) osq = w2 at *
  have HB2 := Lib.hid (HB.out.trans (hb.mono HB.out.size))
  have R1 := Lib.hid ((hb.block _ (block_lt Q1.out)).trans Q1.out)
  have R2 := Lib.hid ((hb.block _ (block_lt Q2.out)).trans Q2.out)
  clear hb Q1 Q2 HB
  go_wp2_with fail
  have HBX := HB2
  have RX1 := R1
  have RX2 := R2
  clear HB2 R1 R2
  go_loopg [22] 3 (fun gk i wr => ∃ j : Nat, j ≤ 3 ∧ gk = 3 - j ∧ i = .int .i64 j ∧ Below w.heap.size w wr ∧ wr.heap[w.heap.size + 1]? = some (.cells #[.int .i64 0, .int .i64 0, .int .i64 0, .int .i64 0] 92) ∧ Sl .i64 wr p n cap a ∧ wr.heap[w.heap.size]? = some (.cells #[.int .i64 (if 0 < j then (pm.smp 0 a c.r) else c.r), .int .i64 (if 1 < j then (pm.smp 0 a c.g) else c.g), .int .i64 (if 2 < j then (pm.smp 0 a c.b) else c.b), .int .i64 c.a] 92))
  case atStart => exact ⟨0, by omega, rfl, rfl, HBX.out, RX2.out, HA.out.below HBX.out, RX1.out⟩
  case round =>
    obtain ⟨j, hj, hg, rfl, hb, hr2, hA, hr1⟩ := hrel
    have Hg := Lib.hid hg
    have Hb := Lib.hid hb
    have Hr2 := Lib.hid hr2
    have HAr := Lib.hid hA
    have Hr1 := Lib.hid hr1
    clear hg hb hr2 hA hr1
    rcases (show j = 0 ∨ j = 1 ∨ j = 2 ∨ j = 3 by omega) with rfl | rfl | rfl | rfl
    · have U1 : Hid (wr.heap[w.heap.size]? = some (.cells #[.int .i64 c.r, .int .i64 c.g, .int .i64 c.b, .int .i64 c.a] 92)) := Lib.hid Hr1.out
      clear Hr1
      have c0 := (cell_of_row wr _ 0 _ _ (0, 0) U1.out).trans rfl
      go_wp2_with fail
      refine (sample0 a c.r p n cap _ HK.out (by omega) (by omega) HAr.out).mono ?_
      rintro e w5 ⟨rfl, hb5⟩
      have V1 := Lib.hid ((hb5.block _ (block_lt U1.out)).trans U1.out)
      have V2 := Lib.hid ((hb5.block _ (block_lt Hr2.out)).trans Hr2.out)
      have HB5 := Lib.hid (Hb.out.trans (hb5.mono Hb.out.size))
      have HA5 := Lib.hid (HAr.out.below hb5)
      clear hb5 c0
      have c0 := (cell_of_row w5 _ 0 _ _ (0, 0) V1.out).trans rfl
      have f0 := frozen_of_row w5 _ 0 _ _ V1.out
      have Y1 : Hid ((w5.setCell ⟨w.heap.size, 0, none⟩ (.int .i64 (pm.smp 0 a c.r))).heap[w.heap.size]? = some (.cells #[.int .i64 (pm.smp 0 a c.r), .int .i64 c.g, .int .i64 c.b, .int .i64 c.a] 92)) := Lib.hid (heap_setCell_same w5 w.heap.size 0 _ _ (.int .i64 (pm.smp 0 a c.r)) V1.out)
      have Y2 := Lib.hid (grown_block (grownBy_setCell3 w5 w.heap.size 0 (.int .i64 (pm.smp 0 a c.r))) V2.out (by intro e; have := Option.some.inj e; omega))
      have Y3 := Lib.hid (HB5.out.setCell (p := ⟨w.heap.size, 0, none⟩) (Nat.le_refl _) (.int .i64 (pm.smp 0 a c.r)))
      have Y4 := Lib.hid (HA.out.below Y3.out)
      generalize hsm : (pm.smp 0 a c.r) = sv at *
      have HSM := Lib.hid hsm
      clear hsm
      go_wp2_with fail
      go_roundg (3 - (0 + 1))
      case measure => have := Hg.out; omega
      case rel => exact ⟨0 + 1, by omega, by omega, by go_num, Y3.out, Y2.out, Y4.out, Y1.out⟩
    · have U1 : Hid (wr.heap[w.heap.size]? = some (.cells #[.int .i64 (pm.smp 0 a c.r), .int .i64 c.g, .int .i64 c.b, .int .i64 c.a] 92)) := Lib.hid Hr1.out
      clear Hr1
      have c0 := (cell_of_row wr _ 1 _ _ (0, 0) U1.out).trans rfl
      go_wp2_with fail
      refine (sample0 a c.g p n cap _ HK.out (by omega) (by omega) HAr.out).mono ?_
      rintro e w5 ⟨rfl, hb5⟩
      have V1 := Lib.hid ((hb5.block _ (block_lt U1.out)).trans U1.out)
      have V2 := Lib.hid ((hb5.block _ (block_lt Hr2.out)).trans Hr2.out)
      have HB5 := Lib.hid (Hb.out.trans (hb5.mono Hb.out.size))
      have HA5 := Lib.hid (HAr.out.below hb5)
      clear hb5 c0
      have c0 := (cell_of_row w5 _ 1 _ _ (0, 0) V1.out).trans rfl
      have f0 := frozen_of_row w5 _ 1 _ _ V1.out
      have Y1 : Hid ((w5.setCell ⟨w.heap.size, 1, none⟩ (.int .i64 (pm.smp 0 a c.g))).heap[w.heap.size]? = some (.cells #[.int .i64 (pm.smp 0 a c.r), .int .i64 (pm.smp 0 a c.g), .int .i64 c.b, .int .i64 c.a] 92)) := Lib.hid (heap_setCell_same w5 w.heap.size 1 _ _ (.int .i64 (pm.smp 0 a c.g)) V1.out)
      have Y2 := Lib.hid (grown_block (grownBy_setCell3 w5 w.heap.size 1 (.int .i64 (pm.smp 0 a c.g))) V2.out (by intro e; have := Option.some.inj e; omega))
      have Y3 := Lib.hid (HB5.out.setCell (p := ⟨w.heap.size, 1, none⟩) (Nat.le_refl _) (.int .i64 (pm.smp 0 a c.g)))
      have Y4 := Lib.hid (HA.out.below Y3.out)
      generalize hsm : (pm.smp 0 a c.g) = sv at *
      have HSM := Lib.hid hsm
      clear hsm
      go_wp2_with fail
      go_roundg (3 - (1 + 1))
      case measure => have := Hg.out; omega
      case rel => exact ⟨1 + 1, by omega, by omega, by go_num, Y3.out, Y2.out, Y4.out, Y1.out⟩
    · have U1 : Hid (wr.heap[w.heap.size]? = some (.cells #[.int .i64 (pm.smp 0 a c.r), .int .i64 (pm.smp 0 a c.g), .int .i64 c.b, .int .i64 c.a] 92)) := Lib.hid Hr1.out
      clear Hr1
      have c0 := (cell_of_row wr _ 2 _ _ (0, 0) U1.out).trans rfl
      go_wp2_with fail
      refine (sample0 a c.b p n cap _ HK.out (by omega) (by omega) HAr.out).mono ?_
      rintro e w5 ⟨rfl, hb5⟩
      have V1 := Lib.hid ((hb5.block _ (block_lt U1.out)).trans U1.out)
      have V2 := Lib.hid ((hb5.block _ (block_lt Hr2.out)).trans Hr2.out)
      have HB5 := Lib.hid (Hb.out.trans (hb5.mono Hb.out.size))
      have HA5 := Lib.hid (HAr.out.below hb5)
      clear hb5 c0
      have c0 := (cell_of_row w5 _ 2 _ _ (0, 0) V1.out).trans rfl
      have f0 := frozen_of_row w5 _ 2 _ _ V1.out
      have Y1 : Hid ((w5.setCell ⟨w.heap.size, 2, none⟩ (.int .i64 (pm.smp 0 a c.b))).heap[w.heap.size]? = some (.cells #[.int .i64 (pm.smp 0 a c.r), .int .i64 (pm.smp 0 a c.g), .int .i64 (pm.smp 0 a c.b), .int .i64 c.a] 92)) := Lib.hid (heap_setCell_same w5 w.heap.size 2 _ _ (.int .i64 (pm.smp 0 a c.b)) V1.out)
      have Y2 := Lib.hid (grown_block (grownBy_setCell3 w5 w.heap.size 2 (.int .i64 (pm.smp 0 a c.b))) V2.out (by intro e; have := Option.some.inj e; omega))
      have Y3 := Lib.hid (HB5.out.setCell (p := ⟨w.heap.size, 2, none⟩) (Nat.le_refl _) (.int .i64 (pm.smp 0 a c.b)))
      have Y4 := Lib.hid (HA.out.below Y3.out)
      generalize hsm : (pm.smp 0 a c.b) = sv at *
      have HSM := Lib.hid hsm
      clear hsm
      go_wp2_with fail
      go_roundg (3 - (2 + 1))
      case measure => have := Hg.out; omega
      case rel => exact ⟨2 + 1, by omega, by omega, by go_num, Y3.out, Y2.out, Y4.out, Y1.out⟩
    · have U1 : Hid (wr.heap[w.heap.size]? = some (.cells #[.int .i64 (pm.smp 0 a c.r), .int .i64 (pm.smp 0 a c.g), .int .i64 (pm.smp 0 a c.b), .int .i64 c.a] 92)) := Lib.hid Hr1.out
      clear Hr1
      go_wp2_with (first | (with_reducible refine wpList_load_row rfl 92 _ rfl w.heap.size rfl 92 _ (0, 0) _ (U1.out) Try.underlying92 rfl (r4Size4 _ _ _ _) ?_) | (with_reducible refine wpList_store_row rfl 92 _ _ rfl (w.heap.size + 1) _ rfl rfl 92 _ Hr2.out (r4Size4 _ _ _ _) (colSz _ _ _ _ _ _ _ _) (r4One _ _ _ _) ?_))
      exact bodyPost_ret (v := .agg #[.int .i64 (pm.smp 0 a c.r), .int .i64 (pm.smp 0 a c.g), .int .i64 (pm.smp 0 a c.b), .int .i64 c.a]) (results_cell_row (p := 14) (ty := 92) rfl _ _ (w.heap.size + 1) 92 _ (0, 0) _ rfl (setRow_heap _ _ _ _ _ _ Hr2.out) Try.underlying92 rfl r4Size) rfl ⟨by rw [HV.out]; rfl, below_setRow Hb.out (by omega) _⟩

set_option maxRecDepth 100000 in
set_option maxHeartbeats 3200000 in
theorem refone3 : RefOneAt 3 ⟨#[108, 101, 118, 101, 108, 115]⟩ := by
  intro a c x y wd p n cap w h hc hpl hA
  obtain ⟨hc0, hc1, hc2, hc3⟩ := hc
  have HA := Lib.hid hA
  have HK := Lib.hid h
  have HV : Hid (pm.res 3 a c x y wd = pm.all 3 a c) := Lib.hid rfl
  clear hA h hpl
  go_enter Try.func63, Try.ntmps63
  go_wp2_with fail
  have HB := Lib.hid (((Below.refl w.heap.size w).alloc (Nat.le_refl _) (.cells #[.int .i64 c.r, .int .i64 c.g, .int .i64 c.b, .int .i64 c.a] 92)).alloc (by simp) (.cells #[.int .i64 0, .int .i64 0, .int .i64 0, .int .i64 0] 92))
  obtain ⟨q1, q2⟩ := heap2 w (.cells #[.int .i64 c.r, .int .i64 c.g, .int .i64 c.b, .int .i64 c.a] 92) (.cells #[.int .i64 0, .int .i64 0, .int .i64 0, .int .i64 0] 92)
  generalize (w.alloc (.cells #[.int .i64 c.r, .int .i64 c.g, .int .i64 c.b, .int .i64 c.a] 92)).alloc (.cells #[.int .i64 0, .int .i64 0, .int .i64 0, .int .i64 0] 92) = w1 at *
  have Q1 := Lib.hid q1
  have Q2 := Lib.hid q2
  clear q1 q2
  have k0 := cell_regrown ((cell_of_row w1 _ 0 _ _ (0, 0) Q1.out).trans rfl)
  have k1 := cell_regrown ((cell_of_row w1 _ 1 _ _ (0, 0) Q1.out).trans rfl)
  have k2 := cell_regrown ((cell_of_row w1 _ 2 _ _ (0, 0) Q1.out).trans rfl)
  refine wp_region_quiet_below (by kernel_rfl) (by kernel_rfl) ?_
  repeat (go_big_quiet_step (fail))
  refine wpQuiet_nil ?_
  intro _ hw'
  obtain ⟨⟨dq, osq⟩, hw''⟩ := hw'
  subst hw''
  have hb := below_regrown w1 dq osq
  clear k0 k1 k2
  generalize grow (redrawn w1 dq) osq = w2 at *
  have HB2 := Lib.hid (HB.out.trans (hb.mono HB.out.size))
  have R1 := Lib.hid ((hb.block _ (block_lt Q1.out)).trans Q1.out)
  have R2 := Lib.hid ((hb.block _ (block_lt Q2.out)).trans Q2.out)
  clear hb Q1 Q2 HB
  go_wp2_with fail
  have HBX := HB2
  have RX1 := R1
  have RX2 := R2
  clear HB2 R1 R2
  go_loopg [22] 3 (fun gk i wr => ∃ j : Nat, j ≤ 3 ∧ gk = 3 - j ∧ i = .int .i64 j ∧ Below w.heap.size w wr ∧ wr.heap[w.heap.size + 1]? = some (.cells #[.int .i64 0, .int .i64 0, .int .i64 0, .int .i64 0] 92) ∧ Sl .i64 wr p n cap a ∧ wr.heap[w.heap.size]? = some (.cells #[.int .i64 (if 0 < j then (pm.smp 3 a c.r) else c.r), .int .i64 (if 1 < j then (pm.smp 3 a c.g) else c.g), .int .i64 (if 2 < j then (pm.smp 3 a c.b) else c.b), .int .i64 c.a] 92))
  case atStart => exact ⟨0, by omega, rfl, rfl, HBX.out, RX2.out, HA.out.below HBX.out, RX1.out⟩
  case round =>
    obtain ⟨j, hj, hg, rfl, hb, hr2, hA, hr1⟩ := hrel
    have Hg := Lib.hid hg
    have Hb := Lib.hid hb
    have Hr2 := Lib.hid hr2
    have HAr := Lib.hid hA
    have Hr1 := Lib.hid hr1
    clear hg hb hr2 hA hr1
    rcases (show j = 0 ∨ j = 1 ∨ j = 2 ∨ j = 3 by omega) with rfl | rfl | rfl | rfl
    · have U1 : Hid (wr.heap[w.heap.size]? = some (.cells #[.int .i64 c.r, .int .i64 c.g, .int .i64 c.b, .int .i64 c.a] 92)) := Lib.hid Hr1.out
      clear Hr1
      have c0 := (cell_of_row wr _ 0 _ _ (0, 0) U1.out).trans rfl
      go_wp2_with fail
      refine (sample3 a c.r p n cap _ HK.out (by omega) (by omega) HAr.out).mono ?_
      rintro e w5 ⟨rfl, hb5⟩
      have V1 := Lib.hid ((hb5.block _ (block_lt U1.out)).trans U1.out)
      have V2 := Lib.hid ((hb5.block _ (block_lt Hr2.out)).trans Hr2.out)
      have HB5 := Lib.hid (Hb.out.trans (hb5.mono Hb.out.size))
      have HA5 := Lib.hid (HAr.out.below hb5)
      clear hb5 c0
      have c0 := (cell_of_row w5 _ 0 _ _ (0, 0) V1.out).trans rfl
      have f0 := frozen_of_row w5 _ 0 _ _ V1.out
      have Y1 : Hid ((w5.setCell ⟨w.heap.size, 0, none⟩ (.int .i64 (pm.smp 3 a c.r))).heap[w.heap.size]? = some (.cells #[.int .i64 (pm.smp 3 a c.r), .int .i64 c.g, .int .i64 c.b, .int .i64 c.a] 92)) := Lib.hid (heap_setCell_same w5 w.heap.size 0 _ _ (.int .i64 (pm.smp 3 a c.r)) V1.out)
      have Y2 := Lib.hid (grown_block (grownBy_setCell3 w5 w.heap.size 0 (.int .i64 (pm.smp 3 a c.r))) V2.out (by intro e; have := Option.some.inj e; omega))
      have Y3 := Lib.hid (HB5.out.setCell (p := ⟨w.heap.size, 0, none⟩) (Nat.le_refl _) (.int .i64 (pm.smp 3 a c.r)))
      have Y4 := Lib.hid (HA.out.below Y3.out)
      generalize hsm : (pm.smp 3 a c.r) = sv at *
      have HSM := Lib.hid hsm
      clear hsm
      go_wp2_with fail
      go_roundg (3 - (0 + 1))
      case measure => have := Hg.out; omega
      case rel => exact ⟨0 + 1, by omega, by omega, by go_num, Y3.out, Y2.out, Y4.out, Y1.out⟩
    · have U1 : Hid (wr.heap[w.heap.size]? = some (.cells #[.int .i64 (pm.smp 3 a c.r), .int .i64 c.g, .int .i64 c.b, .int .i64 c.a] 92)) := Lib.hid Hr1.out
      clear Hr1
      have c0 := (cell_of_row wr _ 1 _ _ (0, 0) U1.out).trans rfl
      go_wp2_with fail
      refine (sample3 a c.g p n cap _ HK.out (by omega) (by omega) HAr.out).mono ?_
      rintro e w5 ⟨rfl, hb5⟩
      have V1 := Lib.hid ((hb5.block _ (block_lt U1.out)).trans U1.out)
      have V2 := Lib.hid ((hb5.block _ (block_lt Hr2.out)).trans Hr2.out)
      have HB5 := Lib.hid (Hb.out.trans (hb5.mono Hb.out.size))
      have HA5 := Lib.hid (HAr.out.below hb5)
      clear hb5 c0
      have c0 := (cell_of_row w5 _ 1 _ _ (0, 0) V1.out).trans rfl
      have f0 := frozen_of_row w5 _ 1 _ _ V1.out
      have Y1 : Hid ((w5.setCell ⟨w.heap.size, 1, none⟩ (.int .i64 (pm.smp 3 a c.g))).heap[w.heap.size]? = some (.cells #[.int .i64 (pm.smp 3 a c.r), .int .i64 (pm.smp 3 a c.g), .int .i64 c.b, .int .i64 c.a] 92)) := Lib.hid (heap_setCell_same w5 w.heap.size 1 _ _ (.int .i64 (pm.smp 3 a c.g)) V1.out)
      have Y2 := Lib.hid (grown_block (grownBy_setCell3 w5 w.heap.size 1 (.int .i64 (pm.smp 3 a c.g))) V2.out (by intro e; have := Option.some.inj e; omega))
      have Y3 := Lib.hid (HB5.out.setCell (p := ⟨w.heap.size, 1, none⟩) (Nat.le_refl _) (.int .i64 (pm.smp 3 a c.g)))
      have Y4 := Lib.hid (HA.out.below Y3.out)
      generalize hsm : (pm.smp 3 a c.g) = sv at *
      have HSM := Lib.hid hsm
      clear hsm
      go_wp2_with fail
      go_roundg (3 - (1 + 1))
      case measure => have := Hg.out; omega
      case rel => exact ⟨1 + 1, by omega, by omega, by go_num, Y3.out, Y2.out, Y4.out, Y1.out⟩
    · have U1 : Hid (wr.heap[w.heap.size]? = some (.cells #[.int .i64 (pm.smp 3 a c.r), .int .i64 (pm.smp 3 a c.g), .int .i64 c.b, .int .i64 c.a] 92)) := Lib.hid Hr1.out
      clear Hr1
      have c0 := (cell_of_row wr _ 2 _ _ (0, 0) U1.out).trans rfl
      go_wp2_with fail
      refine (sample3 a c.b p n cap _ HK.out (by omega) (by omega) HAr.out).mono ?_
      rintro e w5 ⟨rfl, hb5⟩
      have V1 := Lib.hid ((hb5.block _ (block_lt U1.out)).trans U1.out)
      have V2 := Lib.hid ((hb5.block _ (block_lt Hr2.out)).trans Hr2.out)
      have HB5 := Lib.hid (Hb.out.trans (hb5.mono Hb.out.size))
      have HA5 := Lib.hid (HAr.out.below hb5)
      clear hb5 c0
      have c0 := (cell_of_row w5 _ 2 _ _ (0, 0) V1.out).trans rfl
      have f0 := frozen_of_row w5 _ 2 _ _ V1.out
      have Y1 : Hid ((w5.setCell ⟨w.heap.size, 2, none⟩ (.int .i64 (pm.smp 3 a c.b))).heap[w.heap.size]? = some (.cells #[.int .i64 (pm.smp 3 a c.r), .int .i64 (pm.smp 3 a c.g), .int .i64 (pm.smp 3 a c.b), .int .i64 c.a] 92)) := Lib.hid (heap_setCell_same w5 w.heap.size 2 _ _ (.int .i64 (pm.smp 3 a c.b)) V1.out)
      have Y2 := Lib.hid (grown_block (grownBy_setCell3 w5 w.heap.size 2 (.int .i64 (pm.smp 3 a c.b))) V2.out (by intro e; have := Option.some.inj e; omega))
      have Y3 := Lib.hid (HB5.out.setCell (p := ⟨w.heap.size, 2, none⟩) (Nat.le_refl _) (.int .i64 (pm.smp 3 a c.b)))
      have Y4 := Lib.hid (HA.out.below Y3.out)
      generalize hsm : (pm.smp 3 a c.b) = sv at *
      have HSM := Lib.hid hsm
      clear hsm
      go_wp2_with fail
      go_roundg (3 - (2 + 1))
      case measure => have := Hg.out; omega
      case rel => exact ⟨2 + 1, by omega, by omega, by go_num, Y3.out, Y2.out, Y4.out, Y1.out⟩
    · have U1 : Hid (wr.heap[w.heap.size]? = some (.cells #[.int .i64 (pm.smp 3 a c.r), .int .i64 (pm.smp 3 a c.g), .int .i64 (pm.smp 3 a c.b), .int .i64 c.a] 92)) := Lib.hid Hr1.out
      clear Hr1
      go_wp2_with (first | (with_reducible refine wpList_load_row rfl 92 _ rfl w.heap.size rfl 92 _ (0, 0) _ (U1.out) Try.underlying92 rfl (r4Size4 _ _ _ _) ?_) | (with_reducible refine wpList_store_row rfl 92 _ _ rfl (w.heap.size + 1) _ rfl rfl 92 _ Hr2.out (r4Size4 _ _ _ _) (colSz _ _ _ _ _ _ _ _) (r4One _ _ _ _) ?_))
      exact bodyPost_ret (v := .agg #[.int .i64 (pm.smp 3 a c.r), .int .i64 (pm.smp 3 a c.g), .int .i64 (pm.smp 3 a c.b), .int .i64 c.a]) (results_cell_row (p := 14) (ty := 92) rfl _ _ (w.heap.size + 1) 92 _ (0, 0) _ rfl (setRow_heap _ _ _ _ _ _ Hr2.out) Try.underlying92 rfl r4Size) rfl ⟨by rw [HV.out]; rfl, below_setRow Hb.out (by omega) _⟩

set_option maxRecDepth 100000 in
set_option maxHeartbeats 3200000 in
theorem refone4 : RefOneAt 4 ⟨#[115, 113, 117, 101, 101, 122, 101]⟩ := by
  intro a c x y wd p n cap w h hc hpl hA
  obtain ⟨hc0, hc1, hc2, hc3⟩ := hc
  have HA := Lib.hid hA
  have HK := Lib.hid h
  have HV : Hid (pm.res 4 a c x y wd = pm.all 4 a c) := Lib.hid rfl
  clear hA h hpl
  go_enter Try.func63, Try.ntmps63
  go_wp2_with fail
  have HB := Lib.hid (((Below.refl w.heap.size w).alloc (Nat.le_refl _) (.cells #[.int .i64 c.r, .int .i64 c.g, .int .i64 c.b, .int .i64 c.a] 92)).alloc (by simp) (.cells #[.int .i64 0, .int .i64 0, .int .i64 0, .int .i64 0] 92))
  obtain ⟨q1, q2⟩ := heap2 w (.cells #[.int .i64 c.r, .int .i64 c.g, .int .i64 c.b, .int .i64 c.a] 92) (.cells #[.int .i64 0, .int .i64 0, .int .i64 0, .int .i64 0] 92)
  generalize (w.alloc (.cells #[.int .i64 c.r, .int .i64 c.g, .int .i64 c.b, .int .i64 c.a] 92)).alloc (.cells #[.int .i64 0, .int .i64 0, .int .i64 0, .int .i64 0] 92) = w1 at *
  have Q1 := Lib.hid q1
  have Q2 := Lib.hid q2
  clear q1 q2
  have k0 := cell_regrown ((cell_of_row w1 _ 0 _ _ (0, 0) Q1.out).trans rfl)
  have k1 := cell_regrown ((cell_of_row w1 _ 1 _ _ (0, 0) Q1.out).trans rfl)
  have k2 := cell_regrown ((cell_of_row w1 _ 2 _ _ (0, 0) Q1.out).trans rfl)
  refine wp_region_quiet_below (by kernel_rfl) (by kernel_rfl) ?_
  repeat (go_big_quiet_step (fail))
  refine wpQuiet_nil ?_
  intro _ hw'
  obtain ⟨⟨dq, osq⟩, hw''⟩ := hw'
  subst hw''
  have hb := below_regrown w1 dq osq
  clear k0 k1 k2
  generalize grow (redrawn w1 dq) osq = w2 at *
  have HB2 := Lib.hid (HB.out.trans (hb.mono HB.out.size))
  have R1 := Lib.hid ((hb.block _ (block_lt Q1.out)).trans Q1.out)
  have R2 := Lib.hid ((hb.block _ (block_lt Q2.out)).trans Q2.out)
  clear hb Q1 Q2 HB
  go_wp2_with fail
  have HBX := HB2
  have RX1 := R1
  have RX2 := R2
  clear HB2 R1 R2
  go_loopg [22] 3 (fun gk i wr => ∃ j : Nat, j ≤ 3 ∧ gk = 3 - j ∧ i = .int .i64 j ∧ Below w.heap.size w wr ∧ wr.heap[w.heap.size + 1]? = some (.cells #[.int .i64 0, .int .i64 0, .int .i64 0, .int .i64 0] 92) ∧ Sl .i64 wr p n cap a ∧ wr.heap[w.heap.size]? = some (.cells #[.int .i64 (if 0 < j then (pm.smp 4 a c.r) else c.r), .int .i64 (if 1 < j then (pm.smp 4 a c.g) else c.g), .int .i64 (if 2 < j then (pm.smp 4 a c.b) else c.b), .int .i64 c.a] 92))
  case atStart => exact ⟨0, by omega, rfl, rfl, HBX.out, RX2.out, HA.out.below HBX.out, RX1.out⟩
  case round =>
    obtain ⟨j, hj, hg, rfl, hb, hr2, hA, hr1⟩ := hrel
    have Hg := Lib.hid hg
    have Hb := Lib.hid hb
    have Hr2 := Lib.hid hr2
    have HAr := Lib.hid hA
    have Hr1 := Lib.hid hr1
    clear hg hb hr2 hA hr1
    rcases (show j = 0 ∨ j = 1 ∨ j = 2 ∨ j = 3 by omega) with rfl | rfl | rfl | rfl
    · have U1 : Hid (wr.heap[w.heap.size]? = some (.cells #[.int .i64 c.r, .int .i64 c.g, .int .i64 c.b, .int .i64 c.a] 92)) := Lib.hid Hr1.out
      clear Hr1
      have c0 := (cell_of_row wr _ 0 _ _ (0, 0) U1.out).trans rfl
      go_wp2_with fail
      refine (sample4 a c.r p n cap _ HK.out (by omega) (by omega) HAr.out).mono ?_
      rintro e w5 ⟨rfl, hb5⟩
      have V1 := Lib.hid ((hb5.block _ (block_lt U1.out)).trans U1.out)
      have V2 := Lib.hid ((hb5.block _ (block_lt Hr2.out)).trans Hr2.out)
      have HB5 := Lib.hid (Hb.out.trans (hb5.mono Hb.out.size))
      have HA5 := Lib.hid (HAr.out.below hb5)
      clear hb5 c0
      have c0 := (cell_of_row w5 _ 0 _ _ (0, 0) V1.out).trans rfl
      have f0 := frozen_of_row w5 _ 0 _ _ V1.out
      have Y1 : Hid ((w5.setCell ⟨w.heap.size, 0, none⟩ (.int .i64 (pm.smp 4 a c.r))).heap[w.heap.size]? = some (.cells #[.int .i64 (pm.smp 4 a c.r), .int .i64 c.g, .int .i64 c.b, .int .i64 c.a] 92)) := Lib.hid (heap_setCell_same w5 w.heap.size 0 _ _ (.int .i64 (pm.smp 4 a c.r)) V1.out)
      have Y2 := Lib.hid (grown_block (grownBy_setCell3 w5 w.heap.size 0 (.int .i64 (pm.smp 4 a c.r))) V2.out (by intro e; have := Option.some.inj e; omega))
      have Y3 := Lib.hid (HB5.out.setCell (p := ⟨w.heap.size, 0, none⟩) (Nat.le_refl _) (.int .i64 (pm.smp 4 a c.r)))
      have Y4 := Lib.hid (HA.out.below Y3.out)
      generalize hsm : (pm.smp 4 a c.r) = sv at *
      have HSM := Lib.hid hsm
      clear hsm
      go_wp2_with fail
      go_roundg (3 - (0 + 1))
      case measure => have := Hg.out; omega
      case rel => exact ⟨0 + 1, by omega, by omega, by go_num, Y3.out, Y2.out, Y4.out, Y1.out⟩
    · have U1 : Hid (wr.heap[w.heap.size]? = some (.cells #[.int .i64 (pm.smp 4 a c.r), .int .i64 c.g, .int .i64 c.b, .int .i64 c.a] 92)) := Lib.hid Hr1.out
      clear Hr1
      have c0 := (cell_of_row wr _ 1 _ _ (0, 0) U1.out).trans rfl
      go_wp2_with fail
      refine (sample4 a c.g p n cap _ HK.out (by omega) (by omega) HAr.out).mono ?_
      rintro e w5 ⟨rfl, hb5⟩
      have V1 := Lib.hid ((hb5.block _ (block_lt U1.out)).trans U1.out)
      have V2 := Lib.hid ((hb5.block _ (block_lt Hr2.out)).trans Hr2.out)
      have HB5 := Lib.hid (Hb.out.trans (hb5.mono Hb.out.size))
      have HA5 := Lib.hid (HAr.out.below hb5)
      clear hb5 c0
      have c0 := (cell_of_row w5 _ 1 _ _ (0, 0) V1.out).trans rfl
      have f0 := frozen_of_row w5 _ 1 _ _ V1.out
      have Y1 : Hid ((w5.setCell ⟨w.heap.size, 1, none⟩ (.int .i64 (pm.smp 4 a c.g))).heap[w.heap.size]? = some (.cells #[.int .i64 (pm.smp 4 a c.r), .int .i64 (pm.smp 4 a c.g), .int .i64 c.b, .int .i64 c.a] 92)) := Lib.hid (heap_setCell_same w5 w.heap.size 1 _ _ (.int .i64 (pm.smp 4 a c.g)) V1.out)
      have Y2 := Lib.hid (grown_block (grownBy_setCell3 w5 w.heap.size 1 (.int .i64 (pm.smp 4 a c.g))) V2.out (by intro e; have := Option.some.inj e; omega))
      have Y3 := Lib.hid (HB5.out.setCell (p := ⟨w.heap.size, 1, none⟩) (Nat.le_refl _) (.int .i64 (pm.smp 4 a c.g)))
      have Y4 := Lib.hid (HA.out.below Y3.out)
      generalize hsm : (pm.smp 4 a c.g) = sv at *
      have HSM := Lib.hid hsm
      clear hsm
      go_wp2_with fail
      go_roundg (3 - (1 + 1))
      case measure => have := Hg.out; omega
      case rel => exact ⟨1 + 1, by omega, by omega, by go_num, Y3.out, Y2.out, Y4.out, Y1.out⟩
    · have U1 : Hid (wr.heap[w.heap.size]? = some (.cells #[.int .i64 (pm.smp 4 a c.r), .int .i64 (pm.smp 4 a c.g), .int .i64 c.b, .int .i64 c.a] 92)) := Lib.hid Hr1.out
      clear Hr1
      have c0 := (cell_of_row wr _ 2 _ _ (0, 0) U1.out).trans rfl
      go_wp2_with fail
      refine (sample4 a c.b p n cap _ HK.out (by omega) (by omega) HAr.out).mono ?_
      rintro e w5 ⟨rfl, hb5⟩
      have V1 := Lib.hid ((hb5.block _ (block_lt U1.out)).trans U1.out)
      have V2 := Lib.hid ((hb5.block _ (block_lt Hr2.out)).trans Hr2.out)
      have HB5 := Lib.hid (Hb.out.trans (hb5.mono Hb.out.size))
      have HA5 := Lib.hid (HAr.out.below hb5)
      clear hb5 c0
      have c0 := (cell_of_row w5 _ 2 _ _ (0, 0) V1.out).trans rfl
      have f0 := frozen_of_row w5 _ 2 _ _ V1.out
      have Y1 : Hid ((w5.setCell ⟨w.heap.size, 2, none⟩ (.int .i64 (pm.smp 4 a c.b))).heap[w.heap.size]? = some (.cells #[.int .i64 (pm.smp 4 a c.r), .int .i64 (pm.smp 4 a c.g), .int .i64 (pm.smp 4 a c.b), .int .i64 c.a] 92)) := Lib.hid (heap_setCell_same w5 w.heap.size 2 _ _ (.int .i64 (pm.smp 4 a c.b)) V1.out)
      have Y2 := Lib.hid (grown_block (grownBy_setCell3 w5 w.heap.size 2 (.int .i64 (pm.smp 4 a c.b))) V2.out (by intro e; have := Option.some.inj e; omega))
      have Y3 := Lib.hid (HB5.out.setCell (p := ⟨w.heap.size, 2, none⟩) (Nat.le_refl _) (.int .i64 (pm.smp 4 a c.b)))
      have Y4 := Lib.hid (HA.out.below Y3.out)
      generalize hsm : (pm.smp 4 a c.b) = sv at *
      have HSM := Lib.hid hsm
      clear hsm
      go_wp2_with fail
      go_roundg (3 - (2 + 1))
      case measure => have := Hg.out; omega
      case rel => exact ⟨2 + 1, by omega, by omega, by go_num, Y3.out, Y2.out, Y4.out, Y1.out⟩
    · have U1 : Hid (wr.heap[w.heap.size]? = some (.cells #[.int .i64 (pm.smp 4 a c.r), .int .i64 (pm.smp 4 a c.g), .int .i64 (pm.smp 4 a c.b), .int .i64 c.a] 92)) := Lib.hid Hr1.out
      clear Hr1
      go_wp2_with (first | (with_reducible refine wpList_load_row rfl 92 _ rfl w.heap.size rfl 92 _ (0, 0) _ (U1.out) Try.underlying92 rfl (r4Size4 _ _ _ _) ?_) | (with_reducible refine wpList_store_row rfl 92 _ _ rfl (w.heap.size + 1) _ rfl rfl 92 _ Hr2.out (r4Size4 _ _ _ _) (colSz _ _ _ _ _ _ _ _) (r4One _ _ _ _) ?_))
      exact bodyPost_ret (v := .agg #[.int .i64 (pm.smp 4 a c.r), .int .i64 (pm.smp 4 a c.g), .int .i64 (pm.smp 4 a c.b), .int .i64 c.a]) (results_cell_row (p := 14) (ty := 92) rfl _ _ (w.heap.size + 1) 92 _ (0, 0) _ rfl (setRow_heap _ _ _ _ _ _ Hr2.out) Try.underlying92 rfl r4Size) rfl ⟨by rw [HV.out]; rfl, below_setRow Hb.out (by omega) _⟩

set_option maxRecDepth 100000 in
set_option maxHeartbeats 3200000 in
theorem refone5 : RefOneAt 5 ⟨#[97, 100, 100]⟩ := by
  intro a c x y wd p n cap w h hc hpl hA
  obtain ⟨hc0, hc1, hc2, hc3⟩ := hc
  have HA := Lib.hid hA
  have HK := Lib.hid h
  have HV : Hid (pm.res 5 a c x y wd = pm.all 5 a c) := Lib.hid rfl
  clear hA h hpl
  go_enter Try.func63, Try.ntmps63
  go_wp2_with fail
  have HB := Lib.hid (((Below.refl w.heap.size w).alloc (Nat.le_refl _) (.cells #[.int .i64 c.r, .int .i64 c.g, .int .i64 c.b, .int .i64 c.a] 92)).alloc (by simp) (.cells #[.int .i64 0, .int .i64 0, .int .i64 0, .int .i64 0] 92))
  obtain ⟨q1, q2⟩ := heap2 w (.cells #[.int .i64 c.r, .int .i64 c.g, .int .i64 c.b, .int .i64 c.a] 92) (.cells #[.int .i64 0, .int .i64 0, .int .i64 0, .int .i64 0] 92)
  generalize (w.alloc (.cells #[.int .i64 c.r, .int .i64 c.g, .int .i64 c.b, .int .i64 c.a] 92)).alloc (.cells #[.int .i64 0, .int .i64 0, .int .i64 0, .int .i64 0] 92) = w1 at *
  have Q1 := Lib.hid q1
  have Q2 := Lib.hid q2
  clear q1 q2
  have k0 := cell_regrown ((cell_of_row w1 _ 0 _ _ (0, 0) Q1.out).trans rfl)
  have k1 := cell_regrown ((cell_of_row w1 _ 1 _ _ (0, 0) Q1.out).trans rfl)
  have k2 := cell_regrown ((cell_of_row w1 _ 2 _ _ (0, 0) Q1.out).trans rfl)
  refine wp_region_quiet_below (by kernel_rfl) (by kernel_rfl) ?_
  repeat (go_big_quiet_step (fail))
  refine wpQuiet_nil ?_
  intro _ hw'
  obtain ⟨⟨dq, osq⟩, hw''⟩ := hw'
  subst hw''
  have hb := below_regrown w1 dq osq
  clear k0 k1 k2
  generalize grow (redrawn w1 dq) osq = w2 at *
  have HB2 := Lib.hid (HB.out.trans (hb.mono HB.out.size))
  have R1 := Lib.hid ((hb.block _ (block_lt Q1.out)).trans Q1.out)
  have R2 := Lib.hid ((hb.block _ (block_lt Q2.out)).trans Q2.out)
  clear hb Q1 Q2 HB
  go_wp2_with fail
  have HBX := HB2
  have RX1 := R1
  have RX2 := R2
  clear HB2 R1 R2
  go_loopg [22] 3 (fun gk i wr => ∃ j : Nat, j ≤ 3 ∧ gk = 3 - j ∧ i = .int .i64 j ∧ Below w.heap.size w wr ∧ wr.heap[w.heap.size + 1]? = some (.cells #[.int .i64 0, .int .i64 0, .int .i64 0, .int .i64 0] 92) ∧ Sl .i64 wr p n cap a ∧ wr.heap[w.heap.size]? = some (.cells #[.int .i64 (if 0 < j then (pm.smp 5 a c.r) else c.r), .int .i64 (if 1 < j then (pm.smp 5 a c.g) else c.g), .int .i64 (if 2 < j then (pm.smp 5 a c.b) else c.b), .int .i64 c.a] 92))
  case atStart => exact ⟨0, by omega, rfl, rfl, HBX.out, RX2.out, HA.out.below HBX.out, RX1.out⟩
  case round =>
    obtain ⟨j, hj, hg, rfl, hb, hr2, hA, hr1⟩ := hrel
    have Hg := Lib.hid hg
    have Hb := Lib.hid hb
    have Hr2 := Lib.hid hr2
    have HAr := Lib.hid hA
    have Hr1 := Lib.hid hr1
    clear hg hb hr2 hA hr1
    rcases (show j = 0 ∨ j = 1 ∨ j = 2 ∨ j = 3 by omega) with rfl | rfl | rfl | rfl
    · have U1 : Hid (wr.heap[w.heap.size]? = some (.cells #[.int .i64 c.r, .int .i64 c.g, .int .i64 c.b, .int .i64 c.a] 92)) := Lib.hid Hr1.out
      clear Hr1
      have c0 := (cell_of_row wr _ 0 _ _ (0, 0) U1.out).trans rfl
      go_wp2_with fail
      refine (sample5 a c.r p n cap _ HK.out (by omega) (by omega) HAr.out).mono ?_
      rintro e w5 ⟨rfl, hb5⟩
      have V1 := Lib.hid ((hb5.block _ (block_lt U1.out)).trans U1.out)
      have V2 := Lib.hid ((hb5.block _ (block_lt Hr2.out)).trans Hr2.out)
      have HB5 := Lib.hid (Hb.out.trans (hb5.mono Hb.out.size))
      have HA5 := Lib.hid (HAr.out.below hb5)
      clear hb5 c0
      have c0 := (cell_of_row w5 _ 0 _ _ (0, 0) V1.out).trans rfl
      have f0 := frozen_of_row w5 _ 0 _ _ V1.out
      have Y1 : Hid ((w5.setCell ⟨w.heap.size, 0, none⟩ (.int .i64 (pm.smp 5 a c.r))).heap[w.heap.size]? = some (.cells #[.int .i64 (pm.smp 5 a c.r), .int .i64 c.g, .int .i64 c.b, .int .i64 c.a] 92)) := Lib.hid (heap_setCell_same w5 w.heap.size 0 _ _ (.int .i64 (pm.smp 5 a c.r)) V1.out)
      have Y2 := Lib.hid (grown_block (grownBy_setCell3 w5 w.heap.size 0 (.int .i64 (pm.smp 5 a c.r))) V2.out (by intro e; have := Option.some.inj e; omega))
      have Y3 := Lib.hid (HB5.out.setCell (p := ⟨w.heap.size, 0, none⟩) (Nat.le_refl _) (.int .i64 (pm.smp 5 a c.r)))
      have Y4 := Lib.hid (HA.out.below Y3.out)
      generalize hsm : (pm.smp 5 a c.r) = sv at *
      have HSM := Lib.hid hsm
      clear hsm
      go_wp2_with fail
      go_roundg (3 - (0 + 1))
      case measure => have := Hg.out; omega
      case rel => exact ⟨0 + 1, by omega, by omega, by go_num, Y3.out, Y2.out, Y4.out, Y1.out⟩
    · have U1 : Hid (wr.heap[w.heap.size]? = some (.cells #[.int .i64 (pm.smp 5 a c.r), .int .i64 c.g, .int .i64 c.b, .int .i64 c.a] 92)) := Lib.hid Hr1.out
      clear Hr1
      have c0 := (cell_of_row wr _ 1 _ _ (0, 0) U1.out).trans rfl
      go_wp2_with fail
      refine (sample5 a c.g p n cap _ HK.out (by omega) (by omega) HAr.out).mono ?_
      rintro e w5 ⟨rfl, hb5⟩
      have V1 := Lib.hid ((hb5.block _ (block_lt U1.out)).trans U1.out)
      have V2 := Lib.hid ((hb5.block _ (block_lt Hr2.out)).trans Hr2.out)
      have HB5 := Lib.hid (Hb.out.trans (hb5.mono Hb.out.size))
      have HA5 := Lib.hid (HAr.out.below hb5)
      clear hb5 c0
      have c0 := (cell_of_row w5 _ 1 _ _ (0, 0) V1.out).trans rfl
      have f0 := frozen_of_row w5 _ 1 _ _ V1.out
      have Y1 : Hid ((w5.setCell ⟨w.heap.size, 1, none⟩ (.int .i64 (pm.smp 5 a c.g))).heap[w.heap.size]? = some (.cells #[.int .i64 (pm.smp 5 a c.r), .int .i64 (pm.smp 5 a c.g), .int .i64 c.b, .int .i64 c.a] 92)) := Lib.hid (heap_setCell_same w5 w.heap.size 1 _ _ (.int .i64 (pm.smp 5 a c.g)) V1.out)
      have Y2 := Lib.hid (grown_block (grownBy_setCell3 w5 w.heap.size 1 (.int .i64 (pm.smp 5 a c.g))) V2.out (by intro e; have := Option.some.inj e; omega))
      have Y3 := Lib.hid (HB5.out.setCell (p := ⟨w.heap.size, 1, none⟩) (Nat.le_refl _) (.int .i64 (pm.smp 5 a c.g)))
      have Y4 := Lib.hid (HA.out.below Y3.out)
      generalize hsm : (pm.smp 5 a c.g) = sv at *
      have HSM := Lib.hid hsm
      clear hsm
      go_wp2_with fail
      go_roundg (3 - (1 + 1))
      case measure => have := Hg.out; omega
      case rel => exact ⟨1 + 1, by omega, by omega, by go_num, Y3.out, Y2.out, Y4.out, Y1.out⟩
    · have U1 : Hid (wr.heap[w.heap.size]? = some (.cells #[.int .i64 (pm.smp 5 a c.r), .int .i64 (pm.smp 5 a c.g), .int .i64 c.b, .int .i64 c.a] 92)) := Lib.hid Hr1.out
      clear Hr1
      have c0 := (cell_of_row wr _ 2 _ _ (0, 0) U1.out).trans rfl
      go_wp2_with fail
      refine (sample5 a c.b p n cap _ HK.out (by omega) (by omega) HAr.out).mono ?_
      rintro e w5 ⟨rfl, hb5⟩
      have V1 := Lib.hid ((hb5.block _ (block_lt U1.out)).trans U1.out)
      have V2 := Lib.hid ((hb5.block _ (block_lt Hr2.out)).trans Hr2.out)
      have HB5 := Lib.hid (Hb.out.trans (hb5.mono Hb.out.size))
      have HA5 := Lib.hid (HAr.out.below hb5)
      clear hb5 c0
      have c0 := (cell_of_row w5 _ 2 _ _ (0, 0) V1.out).trans rfl
      have f0 := frozen_of_row w5 _ 2 _ _ V1.out
      have Y1 : Hid ((w5.setCell ⟨w.heap.size, 2, none⟩ (.int .i64 (pm.smp 5 a c.b))).heap[w.heap.size]? = some (.cells #[.int .i64 (pm.smp 5 a c.r), .int .i64 (pm.smp 5 a c.g), .int .i64 (pm.smp 5 a c.b), .int .i64 c.a] 92)) := Lib.hid (heap_setCell_same w5 w.heap.size 2 _ _ (.int .i64 (pm.smp 5 a c.b)) V1.out)
      have Y2 := Lib.hid (grown_block (grownBy_setCell3 w5 w.heap.size 2 (.int .i64 (pm.smp 5 a c.b))) V2.out (by intro e; have := Option.some.inj e; omega))
      have Y3 := Lib.hid (HB5.out.setCell (p := ⟨w.heap.size, 2, none⟩) (Nat.le_refl _) (.int .i64 (pm.smp 5 a c.b)))
      have Y4 := Lib.hid (HA.out.below Y3.out)
      generalize hsm : (pm.smp 5 a c.b) = sv at *
      have HSM := Lib.hid hsm
      clear hsm
      go_wp2_with fail
      go_roundg (3 - (2 + 1))
      case measure => have := Hg.out; omega
      case rel => exact ⟨2 + 1, by omega, by omega, by go_num, Y3.out, Y2.out, Y4.out, Y1.out⟩
    · have U1 : Hid (wr.heap[w.heap.size]? = some (.cells #[.int .i64 (pm.smp 5 a c.r), .int .i64 (pm.smp 5 a c.g), .int .i64 (pm.smp 5 a c.b), .int .i64 c.a] 92)) := Lib.hid Hr1.out
      clear Hr1
      go_wp2_with (first | (with_reducible refine wpList_load_row rfl 92 _ rfl w.heap.size rfl 92 _ (0, 0) _ (U1.out) Try.underlying92 rfl (r4Size4 _ _ _ _) ?_) | (with_reducible refine wpList_store_row rfl 92 _ _ rfl (w.heap.size + 1) _ rfl rfl 92 _ Hr2.out (r4Size4 _ _ _ _) (colSz _ _ _ _ _ _ _ _) (r4One _ _ _ _) ?_))
      exact bodyPost_ret (v := .agg #[.int .i64 (pm.smp 5 a c.r), .int .i64 (pm.smp 5 a c.g), .int .i64 (pm.smp 5 a c.b), .int .i64 c.a]) (results_cell_row (p := 14) (ty := 92) rfl _ _ (w.heap.size + 1) 92 _ (0, 0) _ rfl (setRow_heap _ _ _ _ _ _ Hr2.out) Try.underlying92 rfl r4Size) rfl ⟨by rw [HV.out]; rfl, below_setRow Hb.out (by omega) _⟩

set_option maxRecDepth 100000 in
set_option maxHeartbeats 3200000 in
theorem refone6 : RefOneAt 6 ⟨#[115, 99, 97, 108, 101]⟩ := by
  intro a c x y wd p n cap w h hc hpl hA
  obtain ⟨hc0, hc1, hc2, hc3⟩ := hc
  have HA := Lib.hid hA
  have HK := Lib.hid h
  have HV : Hid (pm.res 6 a c x y wd = pm.all 6 a c) := Lib.hid rfl
  clear hA h hpl
  go_enter Try.func63, Try.ntmps63
  go_wp2_with fail
  have HB := Lib.hid (((Below.refl w.heap.size w).alloc (Nat.le_refl _) (.cells #[.int .i64 c.r, .int .i64 c.g, .int .i64 c.b, .int .i64 c.a] 92)).alloc (by simp) (.cells #[.int .i64 0, .int .i64 0, .int .i64 0, .int .i64 0] 92))
  obtain ⟨q1, q2⟩ := heap2 w (.cells #[.int .i64 c.r, .int .i64 c.g, .int .i64 c.b, .int .i64 c.a] 92) (.cells #[.int .i64 0, .int .i64 0, .int .i64 0, .int .i64 0] 92)
  generalize (w.alloc (.cells #[.int .i64 c.r, .int .i64 c.g, .int .i64 c.b, .int .i64 c.a] 92)).alloc (.cells #[.int .i64 0, .int .i64 0, .int .i64 0, .int .i64 0] 92) = w1 at *
  have Q1 := Lib.hid q1
  have Q2 := Lib.hid q2
  clear q1 q2
  have k0 := cell_regrown ((cell_of_row w1 _ 0 _ _ (0, 0) Q1.out).trans rfl)
  have k1 := cell_regrown ((cell_of_row w1 _ 1 _ _ (0, 0) Q1.out).trans rfl)
  have k2 := cell_regrown ((cell_of_row w1 _ 2 _ _ (0, 0) Q1.out).trans rfl)
  refine wp_region_quiet_below (by kernel_rfl) (by kernel_rfl) ?_
  repeat (go_big_quiet_step (fail))
  refine wpQuiet_nil ?_
  intro _ hw'
  obtain ⟨⟨dq, osq⟩, hw''⟩ := hw'
  subst hw''
  have hb := below_regrown w1 dq osq
  clear k0 k1 k2
  generalize grow (redrawn w1 dq) osq = w2 at *
  have HB2 := Lib.hid (HB.out.trans (hb.mono HB.out.size))
  have R1 := Lib.hid ((hb.block _ (block_lt Q1.out)).trans Q1.out)
  have R2 := Lib.hid ((hb.block _ (block_lt Q2.out)).trans Q2.out)
  clear hb Q1 Q2 HB
  go_wp2_with fail
  have HBX := HB2
  have RX1 := R1
  have RX2 := R2
  clear HB2 R1 R2
  go_loopg [22] 3 (fun gk i wr => ∃ j : Nat, j ≤ 3 ∧ gk = 3 - j ∧ i = .int .i64 j ∧ Below w.heap.size w wr ∧ wr.heap[w.heap.size + 1]? = some (.cells #[.int .i64 0, .int .i64 0, .int .i64 0, .int .i64 0] 92) ∧ Sl .i64 wr p n cap a ∧ wr.heap[w.heap.size]? = some (.cells #[.int .i64 (if 0 < j then (pm.smp 6 a c.r) else c.r), .int .i64 (if 1 < j then (pm.smp 6 a c.g) else c.g), .int .i64 (if 2 < j then (pm.smp 6 a c.b) else c.b), .int .i64 c.a] 92))
  case atStart => exact ⟨0, by omega, rfl, rfl, HBX.out, RX2.out, HA.out.below HBX.out, RX1.out⟩
  case round =>
    obtain ⟨j, hj, hg, rfl, hb, hr2, hA, hr1⟩ := hrel
    have Hg := Lib.hid hg
    have Hb := Lib.hid hb
    have Hr2 := Lib.hid hr2
    have HAr := Lib.hid hA
    have Hr1 := Lib.hid hr1
    clear hg hb hr2 hA hr1
    rcases (show j = 0 ∨ j = 1 ∨ j = 2 ∨ j = 3 by omega) with rfl | rfl | rfl | rfl
    · have U1 : Hid (wr.heap[w.heap.size]? = some (.cells #[.int .i64 c.r, .int .i64 c.g, .int .i64 c.b, .int .i64 c.a] 92)) := Lib.hid Hr1.out
      clear Hr1
      have c0 := (cell_of_row wr _ 0 _ _ (0, 0) U1.out).trans rfl
      go_wp2_with fail
      refine (sample6 a c.r p n cap _ HK.out (by omega) (by omega) HAr.out).mono ?_
      rintro e w5 ⟨rfl, hb5⟩
      have V1 := Lib.hid ((hb5.block _ (block_lt U1.out)).trans U1.out)
      have V2 := Lib.hid ((hb5.block _ (block_lt Hr2.out)).trans Hr2.out)
      have HB5 := Lib.hid (Hb.out.trans (hb5.mono Hb.out.size))
      have HA5 := Lib.hid (HAr.out.below hb5)
      clear hb5 c0
      have c0 := (cell_of_row w5 _ 0 _ _ (0, 0) V1.out).trans rfl
      have f0 := frozen_of_row w5 _ 0 _ _ V1.out
      have Y1 : Hid ((w5.setCell ⟨w.heap.size, 0, none⟩ (.int .i64 (pm.smp 6 a c.r))).heap[w.heap.size]? = some (.cells #[.int .i64 (pm.smp 6 a c.r), .int .i64 c.g, .int .i64 c.b, .int .i64 c.a] 92)) := Lib.hid (heap_setCell_same w5 w.heap.size 0 _ _ (.int .i64 (pm.smp 6 a c.r)) V1.out)
      have Y2 := Lib.hid (grown_block (grownBy_setCell3 w5 w.heap.size 0 (.int .i64 (pm.smp 6 a c.r))) V2.out (by intro e; have := Option.some.inj e; omega))
      have Y3 := Lib.hid (HB5.out.setCell (p := ⟨w.heap.size, 0, none⟩) (Nat.le_refl _) (.int .i64 (pm.smp 6 a c.r)))
      have Y4 := Lib.hid (HA.out.below Y3.out)
      generalize hsm : (pm.smp 6 a c.r) = sv at *
      have HSM := Lib.hid hsm
      clear hsm
      go_wp2_with fail
      go_roundg (3 - (0 + 1))
      case measure => have := Hg.out; omega
      case rel => exact ⟨0 + 1, by omega, by omega, by go_num, Y3.out, Y2.out, Y4.out, Y1.out⟩
    · have U1 : Hid (wr.heap[w.heap.size]? = some (.cells #[.int .i64 (pm.smp 6 a c.r), .int .i64 c.g, .int .i64 c.b, .int .i64 c.a] 92)) := Lib.hid Hr1.out
      clear Hr1
      have c0 := (cell_of_row wr _ 1 _ _ (0, 0) U1.out).trans rfl
      go_wp2_with fail
      refine (sample6 a c.g p n cap _ HK.out (by omega) (by omega) HAr.out).mono ?_
      rintro e w5 ⟨rfl, hb5⟩
      have V1 := Lib.hid ((hb5.block _ (block_lt U1.out)).trans U1.out)
      have V2 := Lib.hid ((hb5.block _ (block_lt Hr2.out)).trans Hr2.out)
      have HB5 := Lib.hid (Hb.out.trans (hb5.mono Hb.out.size))
      have HA5 := Lib.hid (HAr.out.below hb5)
      clear hb5 c0
      have c0 := (cell_of_row w5 _ 1 _ _ (0, 0) V1.out).trans rfl
      have f0 := frozen_of_row w5 _ 1 _ _ V1.out
      have Y1 : Hid ((w5.setCell ⟨w.heap.size, 1, none⟩ (.int .i64 (pm.smp 6 a c.g))).heap[w.heap.size]? = some (.cells #[.int .i64 (pm.smp 6 a c.r), .int .i64 (pm.smp 6 a c.g), .int .i64 c.b, .int .i64 c.a] 92)) := Lib.hid (heap_setCell_same w5 w.heap.size 1 _ _ (.int .i64 (pm.smp 6 a c.g)) V1.out)
      have Y2 := Lib.hid (grown_block (grownBy_setCell3 w5 w.heap.size 1 (.int .i64 (pm.smp 6 a c.g))) V2.out (by intro e; have := Option.some.inj e; omega))
      have Y3 := Lib.hid (HB5.out.setCell (p := ⟨w.heap.size, 1, none⟩) (Nat.le_refl _) (.int .i64 (pm.smp 6 a c.g)))
      have Y4 := Lib.hid (HA.out.below Y3.out)
      generalize hsm : (pm.smp 6 a c.g) = sv at *
      have HSM := Lib.hid hsm
      clear hsm
      go_wp2_with fail
      go_roundg (3 - (1 + 1))
      case measure => have := Hg.out; omega
      case rel => exact ⟨1 + 1, by omega, by omega, by go_num, Y3.out, Y2.out, Y4.out, Y1.out⟩
    · have U1 : Hid (wr.heap[w.heap.size]? = some (.cells #[.int .i64 (pm.smp 6 a c.r), .int .i64 (pm.smp 6 a c.g), .int .i64 c.b, .int .i64 c.a] 92)) := Lib.hid Hr1.out
      clear Hr1
      have c0 := (cell_of_row wr _ 2 _ _ (0, 0) U1.out).trans rfl
      go_wp2_with fail
      refine (sample6 a c.b p n cap _ HK.out (by omega) (by omega) HAr.out).mono ?_
      rintro e w5 ⟨rfl, hb5⟩
      have V1 := Lib.hid ((hb5.block _ (block_lt U1.out)).trans U1.out)
      have V2 := Lib.hid ((hb5.block _ (block_lt Hr2.out)).trans Hr2.out)
      have HB5 := Lib.hid (Hb.out.trans (hb5.mono Hb.out.size))
      have HA5 := Lib.hid (HAr.out.below hb5)
      clear hb5 c0
      have c0 := (cell_of_row w5 _ 2 _ _ (0, 0) V1.out).trans rfl
      have f0 := frozen_of_row w5 _ 2 _ _ V1.out
      have Y1 : Hid ((w5.setCell ⟨w.heap.size, 2, none⟩ (.int .i64 (pm.smp 6 a c.b))).heap[w.heap.size]? = some (.cells #[.int .i64 (pm.smp 6 a c.r), .int .i64 (pm.smp 6 a c.g), .int .i64 (pm.smp 6 a c.b), .int .i64 c.a] 92)) := Lib.hid (heap_setCell_same w5 w.heap.size 2 _ _ (.int .i64 (pm.smp 6 a c.b)) V1.out)
      have Y2 := Lib.hid (grown_block (grownBy_setCell3 w5 w.heap.size 2 (.int .i64 (pm.smp 6 a c.b))) V2.out (by intro e; have := Option.some.inj e; omega))
      have Y3 := Lib.hid (HB5.out.setCell (p := ⟨w.heap.size, 2, none⟩) (Nat.le_refl _) (.int .i64 (pm.smp 6 a c.b)))
      have Y4 := Lib.hid (HA.out.below Y3.out)
      generalize hsm : (pm.smp 6 a c.b) = sv at *
      have HSM := Lib.hid hsm
      clear hsm
      go_wp2_with fail
      go_roundg (3 - (2 + 1))
      case measure => have := Hg.out; omega
      case rel => exact ⟨2 + 1, by omega, by omega, by go_num, Y3.out, Y2.out, Y4.out, Y1.out⟩
    · have U1 : Hid (wr.heap[w.heap.size]? = some (.cells #[.int .i64 (pm.smp 6 a c.r), .int .i64 (pm.smp 6 a c.g), .int .i64 (pm.smp 6 a c.b), .int .i64 c.a] 92)) := Lib.hid Hr1.out
      clear Hr1
      go_wp2_with (first | (with_reducible refine wpList_load_row rfl 92 _ rfl w.heap.size rfl 92 _ (0, 0) _ (U1.out) Try.underlying92 rfl (r4Size4 _ _ _ _) ?_) | (with_reducible refine wpList_store_row rfl 92 _ _ rfl (w.heap.size + 1) _ rfl rfl 92 _ Hr2.out (r4Size4 _ _ _ _) (colSz _ _ _ _ _ _ _ _) (r4One _ _ _ _) ?_))
      exact bodyPost_ret (v := .agg #[.int .i64 (pm.smp 6 a c.r), .int .i64 (pm.smp 6 a c.g), .int .i64 (pm.smp 6 a c.b), .int .i64 c.a]) (results_cell_row (p := 14) (ty := 92) rfl _ _ (w.heap.size + 1) 92 _ (0, 0) _ rfl (setRow_heap _ _ _ _ _ _ Hr2.out) Try.underlying92 rfl r4Size) rfl ⟨by rw [HV.out]; rfl, below_setRow Hb.out (by omega) _⟩

set_option maxRecDepth 100000 in
set_option maxHeartbeats 3200000 in
theorem refone7 : RefOneAt 7 ⟨#[112, 111, 115, 116, 101, 114, 105, 122, 101]⟩ := by
  intro a c x y wd p n cap w h hc hpl hA
  obtain ⟨hc0, hc1, hc2, hc3⟩ := hc
  have HA := Lib.hid hA
  have HK := Lib.hid h
  have HV : Hid (pm.res 7 a c x y wd = pm.all 7 a c) := Lib.hid rfl
  clear hA h hpl
  go_enter Try.func63, Try.ntmps63
  go_wp2_with fail
  have HB := Lib.hid (((Below.refl w.heap.size w).alloc (Nat.le_refl _) (.cells #[.int .i64 c.r, .int .i64 c.g, .int .i64 c.b, .int .i64 c.a] 92)).alloc (by simp) (.cells #[.int .i64 0, .int .i64 0, .int .i64 0, .int .i64 0] 92))
  obtain ⟨q1, q2⟩ := heap2 w (.cells #[.int .i64 c.r, .int .i64 c.g, .int .i64 c.b, .int .i64 c.a] 92) (.cells #[.int .i64 0, .int .i64 0, .int .i64 0, .int .i64 0] 92)
  generalize (w.alloc (.cells #[.int .i64 c.r, .int .i64 c.g, .int .i64 c.b, .int .i64 c.a] 92)).alloc (.cells #[.int .i64 0, .int .i64 0, .int .i64 0, .int .i64 0] 92) = w1 at *
  have Q1 := Lib.hid q1
  have Q2 := Lib.hid q2
  clear q1 q2
  have k0 := cell_regrown ((cell_of_row w1 _ 0 _ _ (0, 0) Q1.out).trans rfl)
  have k1 := cell_regrown ((cell_of_row w1 _ 1 _ _ (0, 0) Q1.out).trans rfl)
  have k2 := cell_regrown ((cell_of_row w1 _ 2 _ _ (0, 0) Q1.out).trans rfl)
  refine wp_region_quiet_below (by kernel_rfl) (by kernel_rfl) ?_
  repeat (go_big_quiet_step (fail))
  refine wpQuiet_nil ?_
  intro _ hw'
  obtain ⟨⟨dq, osq⟩, hw''⟩ := hw'
  subst hw''
  have hb := below_regrown w1 dq osq
  clear k0 k1 k2
  generalize grow (redrawn w1 dq) osq = w2 at *
  have HB2 := Lib.hid (HB.out.trans (hb.mono HB.out.size))
  have R1 := Lib.hid ((hb.block _ (block_lt Q1.out)).trans Q1.out)
  have R2 := Lib.hid ((hb.block _ (block_lt Q2.out)).trans Q2.out)
  clear hb Q1 Q2 HB
  go_wp2_with fail
  have HBX := HB2
  have RX1 := R1
  have RX2 := R2
  clear HB2 R1 R2
  go_loopg [22] 3 (fun gk i wr => ∃ j : Nat, j ≤ 3 ∧ gk = 3 - j ∧ i = .int .i64 j ∧ Below w.heap.size w wr ∧ wr.heap[w.heap.size + 1]? = some (.cells #[.int .i64 0, .int .i64 0, .int .i64 0, .int .i64 0] 92) ∧ Sl .i64 wr p n cap a ∧ wr.heap[w.heap.size]? = some (.cells #[.int .i64 (if 0 < j then (pm.smp 7 a c.r) else c.r), .int .i64 (if 1 < j then (pm.smp 7 a c.g) else c.g), .int .i64 (if 2 < j then (pm.smp 7 a c.b) else c.b), .int .i64 c.a] 92))
  case atStart => exact ⟨0, by omega, rfl, rfl, HBX.out, RX2.out, HA.out.below HBX.out, RX1.out⟩
  case round =>
    obtain ⟨j, hj, hg, rfl, hb, hr2, hA, hr1⟩ := hrel
    have Hg := Lib.hid hg
    have Hb := Lib.hid hb
    have Hr2 := Lib.hid hr2
    have HAr := Lib.hid hA
    have Hr1 := Lib.hid hr1
    clear hg hb hr2 hA hr1
    rcases (show j = 0 ∨ j = 1 ∨ j = 2 ∨ j = 3 by omega) with rfl | rfl | rfl | rfl
    · have U1 : Hid (wr.heap[w.heap.size]? = some (.cells #[.int .i64 c.r, .int .i64 c.g, .int .i64 c.b, .int .i64 c.a] 92)) := Lib.hid Hr1.out
      clear Hr1
      have c0 := (cell_of_row wr _ 0 _ _ (0, 0) U1.out).trans rfl
      go_wp2_with fail
      refine (sample7 a c.r p n cap _ HK.out (by omega) (by omega) HAr.out).mono ?_
      rintro e w5 ⟨rfl, hb5⟩
      have V1 := Lib.hid ((hb5.block _ (block_lt U1.out)).trans U1.out)
      have V2 := Lib.hid ((hb5.block _ (block_lt Hr2.out)).trans Hr2.out)
      have HB5 := Lib.hid (Hb.out.trans (hb5.mono Hb.out.size))
      have HA5 := Lib.hid (HAr.out.below hb5)
      clear hb5 c0
      have c0 := (cell_of_row w5 _ 0 _ _ (0, 0) V1.out).trans rfl
      have f0 := frozen_of_row w5 _ 0 _ _ V1.out
      have Y1 : Hid ((w5.setCell ⟨w.heap.size, 0, none⟩ (.int .i64 (pm.smp 7 a c.r))).heap[w.heap.size]? = some (.cells #[.int .i64 (pm.smp 7 a c.r), .int .i64 c.g, .int .i64 c.b, .int .i64 c.a] 92)) := Lib.hid (heap_setCell_same w5 w.heap.size 0 _ _ (.int .i64 (pm.smp 7 a c.r)) V1.out)
      have Y2 := Lib.hid (grown_block (grownBy_setCell3 w5 w.heap.size 0 (.int .i64 (pm.smp 7 a c.r))) V2.out (by intro e; have := Option.some.inj e; omega))
      have Y3 := Lib.hid (HB5.out.setCell (p := ⟨w.heap.size, 0, none⟩) (Nat.le_refl _) (.int .i64 (pm.smp 7 a c.r)))
      have Y4 := Lib.hid (HA.out.below Y3.out)
      generalize hsm : (pm.smp 7 a c.r) = sv at *
      have HSM := Lib.hid hsm
      clear hsm
      go_wp2_with fail
      go_roundg (3 - (0 + 1))
      case measure => have := Hg.out; omega
      case rel => exact ⟨0 + 1, by omega, by omega, by go_num, Y3.out, Y2.out, Y4.out, Y1.out⟩
    · have U1 : Hid (wr.heap[w.heap.size]? = some (.cells #[.int .i64 (pm.smp 7 a c.r), .int .i64 c.g, .int .i64 c.b, .int .i64 c.a] 92)) := Lib.hid Hr1.out
      clear Hr1
      have c0 := (cell_of_row wr _ 1 _ _ (0, 0) U1.out).trans rfl
      go_wp2_with fail
      refine (sample7 a c.g p n cap _ HK.out (by omega) (by omega) HAr.out).mono ?_
      rintro e w5 ⟨rfl, hb5⟩
      have V1 := Lib.hid ((hb5.block _ (block_lt U1.out)).trans U1.out)
      have V2 := Lib.hid ((hb5.block _ (block_lt Hr2.out)).trans Hr2.out)
      have HB5 := Lib.hid (Hb.out.trans (hb5.mono Hb.out.size))
      have HA5 := Lib.hid (HAr.out.below hb5)
      clear hb5 c0
      have c0 := (cell_of_row w5 _ 1 _ _ (0, 0) V1.out).trans rfl
      have f0 := frozen_of_row w5 _ 1 _ _ V1.out
      have Y1 : Hid ((w5.setCell ⟨w.heap.size, 1, none⟩ (.int .i64 (pm.smp 7 a c.g))).heap[w.heap.size]? = some (.cells #[.int .i64 (pm.smp 7 a c.r), .int .i64 (pm.smp 7 a c.g), .int .i64 c.b, .int .i64 c.a] 92)) := Lib.hid (heap_setCell_same w5 w.heap.size 1 _ _ (.int .i64 (pm.smp 7 a c.g)) V1.out)
      have Y2 := Lib.hid (grown_block (grownBy_setCell3 w5 w.heap.size 1 (.int .i64 (pm.smp 7 a c.g))) V2.out (by intro e; have := Option.some.inj e; omega))
      have Y3 := Lib.hid (HB5.out.setCell (p := ⟨w.heap.size, 1, none⟩) (Nat.le_refl _) (.int .i64 (pm.smp 7 a c.g)))
      have Y4 := Lib.hid (HA.out.below Y3.out)
      generalize hsm : (pm.smp 7 a c.g) = sv at *
      have HSM := Lib.hid hsm
      clear hsm
      go_wp2_with fail
      go_roundg (3 - (1 + 1))
      case measure => have := Hg.out; omega
      case rel => exact ⟨1 + 1, by omega, by omega, by go_num, Y3.out, Y2.out, Y4.out, Y1.out⟩
    · have U1 : Hid (wr.heap[w.heap.size]? = some (.cells #[.int .i64 (pm.smp 7 a c.r), .int .i64 (pm.smp 7 a c.g), .int .i64 c.b, .int .i64 c.a] 92)) := Lib.hid Hr1.out
      clear Hr1
      have c0 := (cell_of_row wr _ 2 _ _ (0, 0) U1.out).trans rfl
      go_wp2_with fail
      refine (sample7 a c.b p n cap _ HK.out (by omega) (by omega) HAr.out).mono ?_
      rintro e w5 ⟨rfl, hb5⟩
      have V1 := Lib.hid ((hb5.block _ (block_lt U1.out)).trans U1.out)
      have V2 := Lib.hid ((hb5.block _ (block_lt Hr2.out)).trans Hr2.out)
      have HB5 := Lib.hid (Hb.out.trans (hb5.mono Hb.out.size))
      have HA5 := Lib.hid (HAr.out.below hb5)
      clear hb5 c0
      have c0 := (cell_of_row w5 _ 2 _ _ (0, 0) V1.out).trans rfl
      have f0 := frozen_of_row w5 _ 2 _ _ V1.out
      have Y1 : Hid ((w5.setCell ⟨w.heap.size, 2, none⟩ (.int .i64 (pm.smp 7 a c.b))).heap[w.heap.size]? = some (.cells #[.int .i64 (pm.smp 7 a c.r), .int .i64 (pm.smp 7 a c.g), .int .i64 (pm.smp 7 a c.b), .int .i64 c.a] 92)) := Lib.hid (heap_setCell_same w5 w.heap.size 2 _ _ (.int .i64 (pm.smp 7 a c.b)) V1.out)
      have Y2 := Lib.hid (grown_block (grownBy_setCell3 w5 w.heap.size 2 (.int .i64 (pm.smp 7 a c.b))) V2.out (by intro e; have := Option.some.inj e; omega))
      have Y3 := Lib.hid (HB5.out.setCell (p := ⟨w.heap.size, 2, none⟩) (Nat.le_refl _) (.int .i64 (pm.smp 7 a c.b)))
      have Y4 := Lib.hid (HA.out.below Y3.out)
      generalize hsm : (pm.smp 7 a c.b) = sv at *
      have HSM := Lib.hid hsm
      clear hsm
      go_wp2_with fail
      go_roundg (3 - (2 + 1))
      case measure => have := Hg.out; omega
      case rel => exact ⟨2 + 1, by omega, by omega, by go_num, Y3.out, Y2.out, Y4.out, Y1.out⟩
    · have U1 : Hid (wr.heap[w.heap.size]? = some (.cells #[.int .i64 (pm.smp 7 a c.r), .int .i64 (pm.smp 7 a c.g), .int .i64 (pm.smp 7 a c.b), .int .i64 c.a] 92)) := Lib.hid Hr1.out
      clear Hr1
      go_wp2_with (first | (with_reducible refine wpList_load_row rfl 92 _ rfl w.heap.size rfl 92 _ (0, 0) _ (U1.out) Try.underlying92 rfl (r4Size4 _ _ _ _) ?_) | (with_reducible refine wpList_store_row rfl 92 _ _ rfl (w.heap.size + 1) _ rfl rfl 92 _ Hr2.out (r4Size4 _ _ _ _) (colSz _ _ _ _ _ _ _ _) (r4One _ _ _ _) ?_))
      exact bodyPost_ret (v := .agg #[.int .i64 (pm.smp 7 a c.r), .int .i64 (pm.smp 7 a c.g), .int .i64 (pm.smp 7 a c.b), .int .i64 c.a]) (results_cell_row (p := 14) (ty := 92) rfl _ _ (w.heap.size + 1) 92 _ (0, 0) _ rfl (setRow_heap _ _ _ _ _ _ Hr2.out) Try.underlying92 rfl r4Size) rfl ⟨by rw [HV.out]; rfl, below_setRow Hb.out (by omega) _⟩

set_option maxRecDepth 100000 in
set_option maxHeartbeats 3200000 in
theorem refone8 : RefOneAt 8 ⟨#[115, 111, 108, 97, 114, 105, 122, 101]⟩ := by
  intro a c x y wd p n cap w h hc hpl hA
  obtain ⟨hc0, hc1, hc2, hc3⟩ := hc
  have HA := Lib.hid hA
  have HK := Lib.hid h
  have HV : Hid (pm.res 8 a c x y wd = pm.all 8 a c) := Lib.hid rfl
  clear hA h hpl
  go_enter Try.func63, Try.ntmps63
  go_wp2_with fail
  have HB := Lib.hid (((Below.refl w.heap.size w).alloc (Nat.le_refl _) (.cells #[.int .i64 c.r, .int .i64 c.g, .int .i64 c.b, .int .i64 c.a] 92)).alloc (by simp) (.cells #[.int .i64 0, .int .i64 0, .int .i64 0, .int .i64 0] 92))
  obtain ⟨q1, q2⟩ := heap2 w (.cells #[.int .i64 c.r, .int .i64 c.g, .int .i64 c.b, .int .i64 c.a] 92) (.cells #[.int .i64 0, .int .i64 0, .int .i64 0, .int .i64 0] 92)
  generalize (w.alloc (.cells #[.int .i64 c.r, .int .i64 c.g, .int .i64 c.b, .int .i64 c.a] 92)).alloc (.cells #[.int .i64 0, .int .i64 0, .int .i64 0, .int .i64 0] 92) = w1 at *
  have Q1 := Lib.hid q1
  have Q2 := Lib.hid q2
  clear q1 q2
  have k0 := cell_regrown ((cell_of_row w1 _ 0 _ _ (0, 0) Q1.out).trans rfl)
  have k1 := cell_regrown ((cell_of_row w1 _ 1 _ _ (0, 0) Q1.out).trans rfl)
  have k2 := cell_regrown ((cell_of_row w1 _ 2 _ _ (0, 0) Q1.out).trans rfl)
  refine wp_region_quiet_below (by kernel_rfl) (by kernel_rfl) ?_
  repeat (go_big_quiet_step (fail))
  refine wpQuiet_nil ?_
  intro _ hw'
  obtain ⟨⟨dq, osq⟩, hw''⟩ := hw'
  subst hw''
  have hb := below_regrown w1 dq osq
  clear k0 k1 k2
  generalize grow (redrawn w1 dq) osq = w2 at *
  have HB2 := Lib.hid (HB.out.trans (hb.mono HB.out.size))
  have R1 := Lib.hid ((hb.block _ (block_lt Q1.out)).trans Q1.out)
  have R2 := Lib.hid ((hb.block _ (block_lt Q2.out)).trans Q2.out)
  clear hb Q1 Q2 HB
  go_wp2_with fail
  have HBX := HB2
  have RX1 := R1
  have RX2 := R2
  clear HB2 R1 R2
  go_loopg [22] 3 (fun gk i wr => ∃ j : Nat, j ≤ 3 ∧ gk = 3 - j ∧ i = .int .i64 j ∧ Below w.heap.size w wr ∧ wr.heap[w.heap.size + 1]? = some (.cells #[.int .i64 0, .int .i64 0, .int .i64 0, .int .i64 0] 92) ∧ Sl .i64 wr p n cap a ∧ wr.heap[w.heap.size]? = some (.cells #[.int .i64 (if 0 < j then (pm.smp 8 a c.r) else c.r), .int .i64 (if 1 < j then (pm.smp 8 a c.g) else c.g), .int .i64 (if 2 < j then (pm.smp 8 a c.b) else c.b), .int .i64 c.a] 92))
  case atStart => exact ⟨0, by omega, rfl, rfl, HBX.out, RX2.out, HA.out.below HBX.out, RX1.out⟩
  case round =>
    obtain ⟨j, hj, hg, rfl, hb, hr2, hA, hr1⟩ := hrel
    have Hg := Lib.hid hg
    have Hb := Lib.hid hb
    have Hr2 := Lib.hid hr2
    have HAr := Lib.hid hA
    have Hr1 := Lib.hid hr1
    clear hg hb hr2 hA hr1
    rcases (show j = 0 ∨ j = 1 ∨ j = 2 ∨ j = 3 by omega) with rfl | rfl | rfl | rfl
    · have U1 : Hid (wr.heap[w.heap.size]? = some (.cells #[.int .i64 c.r, .int .i64 c.g, .int .i64 c.b, .int .i64 c.a] 92)) := Lib.hid Hr1.out
      clear Hr1
      have c0 := (cell_of_row wr _ 0 _ _ (0, 0) U1.out).trans rfl
      go_wp2_with fail
      refine (sample8 a c.r p n cap _ HK.out (by omega) (by omega) HAr.out).mono ?_
      rintro e w5 ⟨rfl, hb5⟩
      have V1 := Lib.hid ((hb5.block _ (block_lt U1.out)).trans U1.out)
      have V2 := Lib.hid ((hb5.block _ (block_lt Hr2.out)).trans Hr2.out)
      have HB5 := Lib.hid (Hb.out.trans (hb5.mono Hb.out.size))
      have HA5 := Lib.hid (HAr.out.below hb5)
      clear hb5 c0
      have c0 := (cell_of_row w5 _ 0 _ _ (0, 0) V1.out).trans rfl
      have f0 := frozen_of_row w5 _ 0 _ _ V1.out
      have Y1 : Hid ((w5.setCell ⟨w.heap.size, 0, none⟩ (.int .i64 (pm.smp 8 a c.r))).heap[w.heap.size]? = some (.cells #[.int .i64 (pm.smp 8 a c.r), .int .i64 c.g, .int .i64 c.b, .int .i64 c.a] 92)) := Lib.hid (heap_setCell_same w5 w.heap.size 0 _ _ (.int .i64 (pm.smp 8 a c.r)) V1.out)
      have Y2 := Lib.hid (grown_block (grownBy_setCell3 w5 w.heap.size 0 (.int .i64 (pm.smp 8 a c.r))) V2.out (by intro e; have := Option.some.inj e; omega))
      have Y3 := Lib.hid (HB5.out.setCell (p := ⟨w.heap.size, 0, none⟩) (Nat.le_refl _) (.int .i64 (pm.smp 8 a c.r)))
      have Y4 := Lib.hid (HA.out.below Y3.out)
      generalize hsm : (pm.smp 8 a c.r) = sv at *
      have HSM := Lib.hid hsm
      clear hsm
      go_wp2_with fail
      go_roundg (3 - (0 + 1))
      case measure => have := Hg.out; omega
      case rel => exact ⟨0 + 1, by omega, by omega, by go_num, Y3.out, Y2.out, Y4.out, Y1.out⟩
    · have U1 : Hid (wr.heap[w.heap.size]? = some (.cells #[.int .i64 (pm.smp 8 a c.r), .int .i64 c.g, .int .i64 c.b, .int .i64 c.a] 92)) := Lib.hid Hr1.out
      clear Hr1
      have c0 := (cell_of_row wr _ 1 _ _ (0, 0) U1.out).trans rfl
      go_wp2_with fail
      refine (sample8 a c.g p n cap _ HK.out (by omega) (by omega) HAr.out).mono ?_
      rintro e w5 ⟨rfl, hb5⟩
      have V1 := Lib.hid ((hb5.block _ (block_lt U1.out)).trans U1.out)
      have V2 := Lib.hid ((hb5.block _ (block_lt Hr2.out)).trans Hr2.out)
      have HB5 := Lib.hid (Hb.out.trans (hb5.mono Hb.out.size))
      have HA5 := Lib.hid (HAr.out.below hb5)
      clear hb5 c0
      have c0 := (cell_of_row w5 _ 1 _ _ (0, 0) V1.out).trans rfl
      have f0 := frozen_of_row w5 _ 1 _ _ V1.out
      have Y1 : Hid ((w5.setCell ⟨w.heap.size, 1, none⟩ (.int .i64 (pm.smp 8 a c.g))).heap[w.heap.size]? = some (.cells #[.int .i64 (pm.smp 8 a c.r), .int .i64 (pm.smp 8 a c.g), .int .i64 c.b, .int .i64 c.a] 92)) := Lib.hid (heap_setCell_same w5 w.heap.size 1 _ _ (.int .i64 (pm.smp 8 a c.g)) V1.out)
      have Y2 := Lib.hid (grown_block (grownBy_setCell3 w5 w.heap.size 1 (.int .i64 (pm.smp 8 a c.g))) V2.out (by intro e; have := Option.some.inj e; omega))
      have Y3 := Lib.hid (HB5.out.setCell (p := ⟨w.heap.size, 1, none⟩) (Nat.le_refl _) (.int .i64 (pm.smp 8 a c.g)))
      have Y4 := Lib.hid (HA.out.below Y3.out)
      generalize hsm : (pm.smp 8 a c.g) = sv at *
      have HSM := Lib.hid hsm
      clear hsm
      go_wp2_with fail
      go_roundg (3 - (1 + 1))
      case measure => have := Hg.out; omega
      case rel => exact ⟨1 + 1, by omega, by omega, by go_num, Y3.out, Y2.out, Y4.out, Y1.out⟩
    · have U1 : Hid (wr.heap[w.heap.size]? = some (.cells #[.int .i64 (pm.smp 8 a c.r), .int .i64 (pm.smp 8 a c.g), .int .i64 c.b, .int .i64 c.a] 92)) := Lib.hid Hr1.out
      clear Hr1
      have c0 := (cell_of_row wr _ 2 _ _ (0, 0) U1.out).trans rfl
      go_wp2_with fail
      refine (sample8 a c.b p n cap _ HK.out (by omega) (by omega) HAr.out).mono ?_
      rintro e w5 ⟨rfl, hb5⟩
      have V1 := Lib.hid ((hb5.block _ (block_lt U1.out)).trans U1.out)
      have V2 := Lib.hid ((hb5.block _ (block_lt Hr2.out)).trans Hr2.out)
      have HB5 := Lib.hid (Hb.out.trans (hb5.mono Hb.out.size))
      have HA5 := Lib.hid (HAr.out.below hb5)
      clear hb5 c0
      have c0 := (cell_of_row w5 _ 2 _ _ (0, 0) V1.out).trans rfl
      have f0 := frozen_of_row w5 _ 2 _ _ V1.out
      have Y1 : Hid ((w5.setCell ⟨w.heap.size, 2, none⟩ (.int .i64 (pm.smp 8 a c.b))).heap[w.heap.size]? = some (.cells #[.int .i64 (pm.smp 8 a c.r), .int .i64 (pm.smp 8 a c.g), .int .i64 (pm.smp 8 a c.b), .int .i64 c.a] 92)) := Lib.hid (heap_setCell_same w5 w.heap.size 2 _ _ (.int .i64 (pm.smp 8 a c.b)) V1.out)
      have Y2 := Lib.hid (grown_block (grownBy_setCell3 w5 w.heap.size 2 (.int .i64 (pm.smp 8 a c.b))) V2.out (by intro e; have := Option.some.inj e; omega))
      have Y3 := Lib.hid (HB5.out.setCell (p := ⟨w.heap.size, 2, none⟩) (Nat.le_refl _) (.int .i64 (pm.smp 8 a c.b)))
      have Y4 := Lib.hid (HA.out.below Y3.out)
      generalize hsm : (pm.smp 8 a c.b) = sv at *
      have HSM := Lib.hid hsm
      clear hsm
      go_wp2_with fail
      go_roundg (3 - (2 + 1))
      case measure => have := Hg.out; omega
      case rel => exact ⟨2 + 1, by omega, by omega, by go_num, Y3.out, Y2.out, Y4.out, Y1.out⟩
    · have U1 : Hid (wr.heap[w.heap.size]? = some (.cells #[.int .i64 (pm.smp 8 a c.r), .int .i64 (pm.smp 8 a c.g), .int .i64 (pm.smp 8 a c.b), .int .i64 c.a] 92)) := Lib.hid Hr1.out
      clear Hr1
      go_wp2_with (first | (with_reducible refine wpList_load_row rfl 92 _ rfl w.heap.size rfl 92 _ (0, 0) _ (U1.out) Try.underlying92 rfl (r4Size4 _ _ _ _) ?_) | (with_reducible refine wpList_store_row rfl 92 _ _ rfl (w.heap.size + 1) _ rfl rfl 92 _ Hr2.out (r4Size4 _ _ _ _) (colSz _ _ _ _ _ _ _ _) (r4One _ _ _ _) ?_))
      exact bodyPost_ret (v := .agg #[.int .i64 (pm.smp 8 a c.r), .int .i64 (pm.smp 8 a c.g), .int .i64 (pm.smp 8 a c.b), .int .i64 c.a]) (results_cell_row (p := 14) (ty := 92) rfl _ _ (w.heap.size + 1) 92 _ (0, 0) _ rfl (setRow_heap _ _ _ _ _ _ Hr2.out) Try.underlying92 rfl r4Size) rfl ⟨by rw [HV.out]; rfl, below_setRow Hb.out (by omega) _⟩

set_option maxRecDepth 100000 in
set_option maxHeartbeats 3200000 in
theorem refone9 : RefOneAt 9 ⟨#[103, 97, 109, 109, 97]⟩ := by
  intro a c x y wd p n cap w h hc hpl hA
  obtain ⟨hc0, hc1, hc2, hc3⟩ := hc
  have HA := Lib.hid hA
  have HK := Lib.hid h
  have HV : Hid (pm.res 9 a c x y wd = pm.all 9 a c) := Lib.hid rfl
  clear hA h hpl
  go_enter Try.func63, Try.ntmps63
  go_wp2_with fail
  have HB := Lib.hid (((Below.refl w.heap.size w).alloc (Nat.le_refl _) (.cells #[.int .i64 c.r, .int .i64 c.g, .int .i64 c.b, .int .i64 c.a] 92)).alloc (by simp) (.cells #[.int .i64 0, .int .i64 0, .int .i64 0, .int .i64 0] 92))
  obtain ⟨q1, q2⟩ := heap2 w (.cells #[.int .i64 c.r, .int .i64 c.g, .int .i64 c.b, .int .i64 c.a] 92) (.cells #[.int .i64 0, .int .i64 0, .int .i64 0, .int .i64 0] 92)
  generalize (w.alloc (.cells #[.int .i64 c.r, .int .i64 c.g, .int .i64 c.b, .int .i64 c.a] 92)).alloc (.cells #[.int .i64 0, .int .i64 0, .int .i64 0, .int .i64 0] 92) = w1 at *
  have Q1 := Lib.hid q1
  have Q2 := Lib.hid q2
  clear q1 q2
  have k0 := cell_regrown ((cell_of_row w1 _ 0 _ _ (0, 0) Q1.out).trans rfl)
  have k1 := cell_regrown ((cell_of_row w1 _ 1 _ _ (0, 0) Q1.out).trans rfl)
  have k2 := cell_regrown ((cell_of_row w1 _ 2 _ _ (0, 0) Q1.out).trans rfl)
  refine wp_region_quiet_below (by kernel_rfl) (by kernel_rfl) ?_
  repeat (go_big_quiet_step (fail))
  refine wpQuiet_nil ?_
  intro _ hw'
  obtain ⟨⟨dq, osq⟩, hw''⟩ := hw'
  subst hw''
  have hb := below_regrown w1 dq osq
  clear k0 k1 k2
  generalize grow (redrawn w1 dq) osq = w2 at *
  have HB2 := Lib.hid (HB.out.trans (hb.mono HB.out.size))
  have R1 := Lib.hid ((hb.block _ (block_lt Q1.out)).trans Q1.out)
  have R2 := Lib.hid ((hb.block _ (block_lt Q2.out)).trans Q2.out)
  clear hb Q1 Q2 HB
  go_wp2_with fail
  have HBX := HB2
  have RX1 := R1
  have RX2 := R2
  clear HB2 R1 R2
  go_loopg [22] 3 (fun gk i wr => ∃ j : Nat, j ≤ 3 ∧ gk = 3 - j ∧ i = .int .i64 j ∧ Below w.heap.size w wr ∧ wr.heap[w.heap.size + 1]? = some (.cells #[.int .i64 0, .int .i64 0, .int .i64 0, .int .i64 0] 92) ∧ Sl .i64 wr p n cap a ∧ wr.heap[w.heap.size]? = some (.cells #[.int .i64 (if 0 < j then (pm.smp 9 a c.r) else c.r), .int .i64 (if 1 < j then (pm.smp 9 a c.g) else c.g), .int .i64 (if 2 < j then (pm.smp 9 a c.b) else c.b), .int .i64 c.a] 92))
  case atStart => exact ⟨0, by omega, rfl, rfl, HBX.out, RX2.out, HA.out.below HBX.out, RX1.out⟩
  case round =>
    obtain ⟨j, hj, hg, rfl, hb, hr2, hA, hr1⟩ := hrel
    have Hg := Lib.hid hg
    have Hb := Lib.hid hb
    have Hr2 := Lib.hid hr2
    have HAr := Lib.hid hA
    have Hr1 := Lib.hid hr1
    clear hg hb hr2 hA hr1
    rcases (show j = 0 ∨ j = 1 ∨ j = 2 ∨ j = 3 by omega) with rfl | rfl | rfl | rfl
    · have U1 : Hid (wr.heap[w.heap.size]? = some (.cells #[.int .i64 c.r, .int .i64 c.g, .int .i64 c.b, .int .i64 c.a] 92)) := Lib.hid Hr1.out
      clear Hr1
      have c0 := (cell_of_row wr _ 0 _ _ (0, 0) U1.out).trans rfl
      go_wp2_with fail
      refine (sample9 a c.r p n cap _ HK.out (by omega) (by omega) HAr.out).mono ?_
      rintro e w5 ⟨rfl, hb5⟩
      have V1 := Lib.hid ((hb5.block _ (block_lt U1.out)).trans U1.out)
      have V2 := Lib.hid ((hb5.block _ (block_lt Hr2.out)).trans Hr2.out)
      have HB5 := Lib.hid (Hb.out.trans (hb5.mono Hb.out.size))
      have HA5 := Lib.hid (HAr.out.below hb5)
      clear hb5 c0
      have c0 := (cell_of_row w5 _ 0 _ _ (0, 0) V1.out).trans rfl
      have f0 := frozen_of_row w5 _ 0 _ _ V1.out
      have Y1 : Hid ((w5.setCell ⟨w.heap.size, 0, none⟩ (.int .i64 (pm.smp 9 a c.r))).heap[w.heap.size]? = some (.cells #[.int .i64 (pm.smp 9 a c.r), .int .i64 c.g, .int .i64 c.b, .int .i64 c.a] 92)) := Lib.hid (heap_setCell_same w5 w.heap.size 0 _ _ (.int .i64 (pm.smp 9 a c.r)) V1.out)
      have Y2 := Lib.hid (grown_block (grownBy_setCell3 w5 w.heap.size 0 (.int .i64 (pm.smp 9 a c.r))) V2.out (by intro e; have := Option.some.inj e; omega))
      have Y3 := Lib.hid (HB5.out.setCell (p := ⟨w.heap.size, 0, none⟩) (Nat.le_refl _) (.int .i64 (pm.smp 9 a c.r)))
      have Y4 := Lib.hid (HA.out.below Y3.out)
      generalize hsm : (pm.smp 9 a c.r) = sv at *
      have HSM := Lib.hid hsm
      clear hsm
      go_wp2_with fail
      go_roundg (3 - (0 + 1))
      case measure => have := Hg.out; omega
      case rel => exact ⟨0 + 1, by omega, by omega, by go_num, Y3.out, Y2.out, Y4.out, Y1.out⟩
    · have U1 : Hid (wr.heap[w.heap.size]? = some (.cells #[.int .i64 (pm.smp 9 a c.r), .int .i64 c.g, .int .i64 c.b, .int .i64 c.a] 92)) := Lib.hid Hr1.out
      clear Hr1
      have c0 := (cell_of_row wr _ 1 _ _ (0, 0) U1.out).trans rfl
      go_wp2_with fail
      refine (sample9 a c.g p n cap _ HK.out (by omega) (by omega) HAr.out).mono ?_
      rintro e w5 ⟨rfl, hb5⟩
      have V1 := Lib.hid ((hb5.block _ (block_lt U1.out)).trans U1.out)
      have V2 := Lib.hid ((hb5.block _ (block_lt Hr2.out)).trans Hr2.out)
      have HB5 := Lib.hid (Hb.out.trans (hb5.mono Hb.out.size))
      have HA5 := Lib.hid (HAr.out.below hb5)
      clear hb5 c0
      have c0 := (cell_of_row w5 _ 1 _ _ (0, 0) V1.out).trans rfl
      have f0 := frozen_of_row w5 _ 1 _ _ V1.out
      have Y1 : Hid ((w5.setCell ⟨w.heap.size, 1, none⟩ (.int .i64 (pm.smp 9 a c.g))).heap[w.heap.size]? = some (.cells #[.int .i64 (pm.smp 9 a c.r), .int .i64 (pm.smp 9 a c.g), .int .i64 c.b, .int .i64 c.a] 92)) := Lib.hid (heap_setCell_same w5 w.heap.size 1 _ _ (.int .i64 (pm.smp 9 a c.g)) V1.out)
      have Y2 := Lib.hid (grown_block (grownBy_setCell3 w5 w.heap.size 1 (.int .i64 (pm.smp 9 a c.g))) V2.out (by intro e; have := Option.some.inj e; omega))
      have Y3 := Lib.hid (HB5.out.setCell (p := ⟨w.heap.size, 1, none⟩) (Nat.le_refl _) (.int .i64 (pm.smp 9 a c.g)))
      have Y4 := Lib.hid (HA.out.below Y3.out)
      generalize hsm : (pm.smp 9 a c.g) = sv at *
      have HSM := Lib.hid hsm
      clear hsm
      go_wp2_with fail
      go_roundg (3 - (1 + 1))
      case measure => have := Hg.out; omega
      case rel => exact ⟨1 + 1, by omega, by omega, by go_num, Y3.out, Y2.out, Y4.out, Y1.out⟩
    · have U1 : Hid (wr.heap[w.heap.size]? = some (.cells #[.int .i64 (pm.smp 9 a c.r), .int .i64 (pm.smp 9 a c.g), .int .i64 c.b, .int .i64 c.a] 92)) := Lib.hid Hr1.out
      clear Hr1
      have c0 := (cell_of_row wr _ 2 _ _ (0, 0) U1.out).trans rfl
      go_wp2_with fail
      refine (sample9 a c.b p n cap _ HK.out (by omega) (by omega) HAr.out).mono ?_
      rintro e w5 ⟨rfl, hb5⟩
      have V1 := Lib.hid ((hb5.block _ (block_lt U1.out)).trans U1.out)
      have V2 := Lib.hid ((hb5.block _ (block_lt Hr2.out)).trans Hr2.out)
      have HB5 := Lib.hid (Hb.out.trans (hb5.mono Hb.out.size))
      have HA5 := Lib.hid (HAr.out.below hb5)
      clear hb5 c0
      have c0 := (cell_of_row w5 _ 2 _ _ (0, 0) V1.out).trans rfl
      have f0 := frozen_of_row w5 _ 2 _ _ V1.out
      have Y1 : Hid ((w5.setCell ⟨w.heap.size, 2, none⟩ (.int .i64 (pm.smp 9 a c.b))).heap[w.heap.size]? = some (.cells #[.int .i64 (pm.smp 9 a c.r), .int .i64 (pm.smp 9 a c.g), .int .i64 (pm.smp 9 a c.b), .int .i64 c.a] 92)) := Lib.hid (heap_setCell_same w5 w.heap.size 2 _ _ (.int .i64 (pm.smp 9 a c.b)) V1.out)
      have Y2 := Lib.hid (grown_block (grownBy_setCell3 w5 w.heap.size 2 (.int .i64 (pm.smp 9 a c.b))) V2.out (by intro e; have := Option.some.inj e; omega))
      have Y3 := Lib.hid (HB5.out.setCell (p := ⟨w.heap.size, 2, none⟩) (Nat.le_refl _) (.int .i64 (pm.smp 9 a c.b)))
      have Y4 := Lib.hid (HA.out.below Y3.out)
      generalize hsm : (pm.smp 9 a c.b) = sv at *
      have HSM := Lib.hid hsm
      clear hsm
      go_wp2_with fail
      go_roundg (3 - (2 + 1))
      case measure => have := Hg.out; omega
      case rel => exact ⟨2 + 1, by omega, by omega, by go_num, Y3.out, Y2.out, Y4.out, Y1.out⟩
    · have U1 : Hid (wr.heap[w.heap.size]? = some (.cells #[.int .i64 (pm.smp 9 a c.r), .int .i64 (pm.smp 9 a c.g), .int .i64 (pm.smp 9 a c.b), .int .i64 c.a] 92)) := Lib.hid Hr1.out
      clear Hr1
      go_wp2_with (first | (with_reducible refine wpList_load_row rfl 92 _ rfl w.heap.size rfl 92 _ (0, 0) _ (U1.out) Try.underlying92 rfl (r4Size4 _ _ _ _) ?_) | (with_reducible refine wpList_store_row rfl 92 _ _ rfl (w.heap.size + 1) _ rfl rfl 92 _ Hr2.out (r4Size4 _ _ _ _) (colSz _ _ _ _ _ _ _ _) (r4One _ _ _ _) ?_))
      exact bodyPost_ret (v := .agg #[.int .i64 (pm.smp 9 a c.r), .int .i64 (pm.smp 9 a c.g), .int .i64 (pm.smp 9 a c.b), .int .i64 c.a]) (results_cell_row (p := 14) (ty := 92) rfl _ _ (w.heap.size + 1) 92 _ (0, 0) _ rfl (setRow_heap _ _ _ _ _ _ Hr2.out) Try.underlying92 rfl r4Size) rfl ⟨by rw [HV.out]; rfl, below_setRow Hb.out (by omega) _⟩
end Go.Proofs.Ytdemndjenlhahaa
