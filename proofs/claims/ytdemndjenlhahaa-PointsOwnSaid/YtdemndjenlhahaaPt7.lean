/- The works that look twice: key, checker, flatten. -/
import Derived.Test.YtdemndjenlhahaaPt6
import Derived.Test.YtdemndjenlhahaaPt1
import Derived.Test.YtdemndjenlhahaaOpLaid
namespace Go.Proofs.Ytdemndjenlhahaa
open Go.RowKit Go.Sort Go.Shelf

set_option maxRecDepth 100000 in
set_option maxHeartbeats 1600000 in
theorem dir17 : DirF 58 17 := by
  intro a c x y wd p n cap w h hc _ hA
  obtain ⟨t0, t1, t2, t3, rfl, h0, h1, h2, h3⟩ := fit4 (show pm.fitL a [(0, 65535), (0, 65535), (0, 65535), (0, 65535)] from h.1)
  obtain ⟨b, off, rfl, rfl, c0, c1, c2, c3⟩ := args4 hA
  simp only at h0 h1 h2 h3
  have hr := hc.1
  have hg := hc.2.1
  have hbl := hc.2.2.1
  clear hc hA h
  go_enter Try.func58, Try.ntmps58
  go_wp2_with fail
  have HB := Lib.hid (below3 w (.cells #[.int .u16 c.r, .int .u16 c.g, .int .u16 c.b, .int .u16 c.a] 33) (.cells #[.int .i64 x, .int .i64 y, .int .i64 wd] 64) (.cells #[.int .u16 0, .int .u16 0, .int .u16 0, .int .u16 0] 33))
  obtain ⟨q1, q2, q3⟩ := heap3 w (.cells #[.int .u16 c.r, .int .u16 c.g, .int .u16 c.b, .int .u16 c.a] 33) (.cells #[.int .i64 x, .int .i64 y, .int .i64 wd] 64) (.cells #[.int .u16 0, .int .u16 0, .int .u16 0, .int .u16 0] 33)
  generalize (((w.alloc (.cells #[.int .u16 c.r, .int .u16 c.g, .int .u16 c.b, .int .u16 c.a] 33)).alloc (.cells #[.int .i64 x, .int .i64 y, .int .i64 wd] 64)).alloc (.cells #[.int .u16 0, .int .u16 0, .int .u16 0, .int .u16 0] 33)) = w1 at *
  have Q1 := Lib.hid q1
  have Q3 := Lib.hid q3
  clear q1 q2 q3
  have l0 := cell_regrown (keep_cell HB.out c0)
  have l1 := cell_regrown (keep_cell HB.out c1)
  have l2 := cell_regrown (keep_cell HB.out c2)
  have l3 := cell_regrown (keep_cell HB.out c3)
  clear c0 c1 c2 c3
  have k0 := cell_regrown ((cell_of_row w1 _ 0 _ _ (0, 0) Q1.out).trans rfl)
  have k1 := cell_regrown ((cell_of_row w1 _ 1 _ _ (0, 0) Q1.out).trans rfl)
  have k2 := cell_regrown ((cell_of_row w1 _ 2 _ _ (0, 0) Q1.out).trans rfl)
  have k3 := cell_regrown ((cell_of_row w1 _ 3 _ _ (0, 0) Q1.out).trans rfl)
  have W0 : IntKind.i64.wrap c.r = c.r := IntWalk.i64_in _ (by omega)
  have V0 : IntKind.i64.wrap (c.r - t0) = c.r - t0 := IntWalk.i64_in _ (by omega)
  have W1 : IntKind.i64.wrap c.g = c.g := IntWalk.i64_in _ (by omega)
  have V1 : IntKind.i64.wrap (c.g - t1) = c.g - t1 := IntWalk.i64_in _ (by omega)
  have W2 : IntKind.i64.wrap c.b = c.b := IntWalk.i64_in _ (by omega)
  have V2 : IntKind.i64.wrap (c.b - t2) = c.b - t2 := IntWalk.i64_in _ (by omega)
  have CN : Hid (∀ u v : Int, 0 ≤ u ∧ u ≤ 65535 → 0 ≤ v ∧ v ≤ 65535 → ∀ d os, Calls Try.prog 59 #[.int .i64 (u - v)] (grow (redrawn w1 d) os) fun e w'' => e = .returned (.int .i64 (pm.dist u v)) ∧ ∃ p : Regrown, w'' = grow (redrawn w1 p.d) p.os) :=
    Lib.hid (fun u v hu hv d os => Calls.regrown_of (by
      have := below_of (abs_any (u - v) (grow (redrawn w1 d) os) (by omega) (by omega))
      rwa [show (if u - v < 0 then -(u - v) else u - v) = pm.dist u v from by unfold pm.dist; split <;> split <;> omega] at this))
  refine wp_region_quiet_below (by kernel_rfl) (by kernel_rfl) ?_
  repeat (go_big_quiet_step (((go_at_call 59; exact CN.out _ _ (by assumption) (by assumption) _ _))))
  refine wpQuiet_nil ?_
  intro _ hw'
  obtain ⟨⟨dq, osq⟩, hw''⟩ := hw'
  subst hw''
  have hb := below_regrown w1 dq osq
  clear k0 k1 k2 k3 l0 l1 l2 l3 W0 W1 W2 V0 V1 V2
  generalize grow (redrawn w1 dq) osq = w4 at *
  have HB4 := Lib.hid (HB.out.trans (hb.mono HB.out.size))
  have R1 := Lib.hid ((hb.block _ (block_lt Q1.out)).trans Q1.out)
  have Q4 := Lib.hid ((hb.block _ (block_lt Q3.out)).trans Q3.out)
  clear hb
  have hiff : ((if (if pm.dist c.r t0 < pm.dist c.g t1 then pm.dist c.g t1 else pm.dist c.r t0) < pm.dist c.b t2 then pm.dist c.b t2 else if pm.dist c.r t0 < pm.dist c.g t1 then pm.dist c.g t1 else pm.dist c.r t0) ≤ t3) ↔ pm.nearTo [t0, t1, t2, t3] c := by
    show _ ↔ pm.dist c.r t0 ≤ t3 ∧ pm.dist c.g t1 ≤ t3 ∧ pm.dist c.b t2 ≤ t3
    split <;> split <;> omega
  have HV : Hid (pm.res 17 [t0, t1, t2, t3] c x y wd = if pm.nearTo [t0, t1, t2, t3] c then ⟨c.r, c.g, c.b, 0⟩ else c) := Lib.hid rfl
  generalize (if (if pm.dist c.r t0 < pm.dist c.g t1 then pm.dist c.g t1 else pm.dist c.r t0) < pm.dist c.b t2 then pm.dist c.b t2 else if pm.dist c.r t0 < pm.dist c.g t1 then pm.dist c.g t1 else pm.dist c.r t0) = M at *
  by_cases hn : pm.nearTo [t0, t1, t2, t3] c
  · have B1 : M ≤ t3 := hiff.2 hn
    have HN := Lib.hid hn
    clear hn hiff
    have k3 := ((cell_of_row w4 _ 3 _ _ (0, 0) R1.out).trans rfl)
    have f3 := frozen_of_row w4 _ 3 _ _ R1.out
    have R5 := Lib.hid (col_set3 (x := 0) R1.out)
    have Q5 := Lib.hid ((Below.heap_setCell w4 ⟨w.heap.size, 3, none⟩ (.int .u16 (0)) (w.heap.size + 1 + 1) (by simp; omega)).trans Q4.out)
    have n0 := ((cell_of_row (w4.setCell ⟨w.heap.size, 3, none⟩ (.int .u16 (0))) _ 0 _ _ (0, 0) R5.out).trans rfl)
    have n1 := ((cell_of_row (w4.setCell ⟨w.heap.size, 3, none⟩ (.int .u16 (0))) _ 1 _ _ (0, 0) R5.out).trans rfl)
    have n2 := ((cell_of_row (w4.setCell ⟨w.heap.size, 3, none⟩ (.int .u16 (0))) _ 2 _ _ (0, 0) R5.out).trans rfl)
    have n3 := ((cell_of_row (w4.setCell ⟨w.heap.size, 3, none⟩ (.int .u16 (0))) _ 3 _ _ (0, 0) R5.out).trans rfl)
    go_wp2_with (with_reducible refine wpList_store_row rfl 33 _ _ rfl (w.heap.size + 1 + 1) _ rfl rfl 33 _ Q5.out (colSize4 _ _ _ _) (colSz _ _ _ _ _ _ _ _) (colOne _ _ _ _) ?_)
    exact bodyPost_ret (v := .agg #[.int .u16 c.r, .int .u16 c.g, .int .u16 c.b, .int .u16 (0)]) (results_cell_row (p := 6) (ty := 33) rfl _ _ (w.heap.size + 1 + 1) 33 _ (0, 0) _ rfl (setRow_heap (w4.setCell ⟨w.heap.size, 3, none⟩ (.int .u16 (0))) _ _ _ _ _ Q5.out) Try.underlying33 rfl colSize) rfl ⟨by rw [HV.out, if_pos HN.out]; rfl, below_setRow (HB4.out.setCell (p := ⟨w.heap.size, 3, none⟩) (Nat.le_refl _) _) (by omega) _⟩
  · have B1 : t3 < M := Int.not_le.1 (fun h => hn (hiff.1 h))
    have HN := Lib.hid hn
    clear hn hiff
    have k0 := ((cell_of_row w4 _ 0 _ _ (0, 0) R1.out).trans rfl)
    have k1 := ((cell_of_row w4 _ 1 _ _ (0, 0) R1.out).trans rfl)
    have k2 := ((cell_of_row w4 _ 2 _ _ (0, 0) R1.out).trans rfl)
    have k3 := ((cell_of_row w4 _ 3 _ _ (0, 0) R1.out).trans rfl)
    go_wp2_with (with_reducible refine wpList_store_row rfl 33 _ _ rfl (w.heap.size + 1 + 1) _ rfl rfl 33 _ Q4.out (colSize4 _ _ _ _) (colSz _ _ _ _ _ _ _ _) (colOne _ _ _ _) ?_)
    exact bodyPost_ret (v := .agg #[.int .u16 c.r, .int .u16 c.g, .int .u16 c.b, .int .u16 c.a]) (results_cell_row (p := 6) (ty := 33) rfl _ _ (w.heap.size + 1 + 1) 33 _ (0, 0) _ rfl (setRow_heap w4 _ _ _ _ _ Q4.out) Try.underlying33 rfl colSize) rfl ⟨by rw [HV.out, if_neg HN.out]; rfl, below_setRow HB4.out (by omega) _⟩

theorem pm.and_1' (n : Int) : bits BinOp.and IntKind.i64 n 1 = n % 2 := by
  have h1 : (BitVec.ofInt 64 1).toNat = 2 ^ 1 - 1 := by decide
  have key : (BitVec.ofInt 64 n &&& BitVec.ofInt 64 1).toNat = (n % ((2 ^ 64 : Nat) : Int)).toNat % 2 ^ 1 := by
    rw [BitVec.toNat_and, BitVec.toNat_ofInt, h1, Nat.and_two_pow_sub_one_eq_mod]
  show IntKind.i64.wrap ((BitVec.ofInt 64 n &&& BitVec.ofInt 64 1).toNat : Nat) = n % 2
  rw [key, IntKind.wrap_i64]
  omega
theorem pm.and_1 {c : Nat} (_ : c < 4611686018427387904) : bits BinOp.and IntKind.i64 (c : Int) 1 = ((c % 2 : Nat) : Int) := by
  rw [pm.and_1']; omega

set_option maxRecDepth 100000 in
theorem dir18 : DirF 60 18 := by
  intro a c x y wd p n cap w h hc hp hA
  obtain ⟨t, rfl, ht⟩ := fit1 (show pm.fitL a [(1, 4096)] from h.1)
  have HA := Lib.hid hA
  obtain ⟨b, off, rfl, rfl, c0⟩ := args1 hA
  simp only at ht
  obtain ⟨p0, p1, p2, p3, p4⟩ : 0 ≤ x ∧ x < wd ∧ wd ≤ 65536 ∧ 0 ≤ y ∧ y ≤ 65536 := by
    rcases hp with hp | hp
    · omega
    · exact hp
  have HC := Lib.hid hc
  have HK := Lib.hid h
  have q0 : 0 ≤ x / t := Int.ediv_nonneg p0 (by omega)
  have q1 : x / t ≤ x := Int.ediv_le_self _ p0
  have q2 : 0 ≤ y / t := Int.ediv_nonneg p3 (by omega)
  have q3 : y / t ≤ y := Int.ediv_le_self _ p3
  clear hc hA h hp
  go_enter Try.func60, Try.ntmps60
  go_wp2_with fail
  have HB := Lib.hid (below3 w (.cells #[.int .u16 c.r, .int .u16 c.g, .int .u16 c.b, .int .u16 c.a] 33) (.cells #[.int .i64 x, .int .i64 y, .int .i64 wd] 64) (.cells #[.int .u16 0, .int .u16 0, .int .u16 0, .int .u16 0] 33))
  obtain ⟨z1, z2, z3⟩ := heap3 w (.cells #[.int .u16 c.r, .int .u16 c.g, .int .u16 c.b, .int .u16 c.a] 33) (.cells #[.int .i64 x, .int .i64 y, .int .i64 wd] 64) (.cells #[.int .u16 0, .int .u16 0, .int .u16 0, .int .u16 0] 33)
  generalize (((w.alloc (.cells #[.int .u16 c.r, .int .u16 c.g, .int .u16 c.b, .int .u16 c.a] 33)).alloc (.cells #[.int .i64 x, .int .i64 y, .int .i64 wd] 64)).alloc (.cells #[.int .u16 0, .int .u16 0, .int .u16 0, .int .u16 0] 33)) = w1 at *
  have Q1 := Lib.hid z1
  have Q3 := Lib.hid z3
  have Q2 := Lib.hid z2
  clear z1 z2 z3
  have l0 := cell_regrown (keep_cell HB.out c0)
  clear c0
  have k0 := cell_regrown ((cell_of_row w1 _ 0 _ _ (0, 0) Q2.out).trans rfl)
  have k1 := cell_regrown ((cell_of_row w1 _ 1 _ _ (0, 0) Q2.out).trans rfl)
  have W0 : (t == 0) = false := by simp; omega
  have W1 : x.tdiv t = x / t := Int.tdiv_eq_ediv_of_nonneg p0
  have W2 : y.tdiv t = y / t := Int.tdiv_eq_ediv_of_nonneg p3
  have W3 : IntKind.i64.wrap (x / t) = x / t := IntWalk.i64_in _ (by omega)
  have W4 : IntKind.i64.wrap (y / t) = y / t := IntWalk.i64_in _ (by omega)
  have W5 : IntKind.i64.wrap (x / t + y / t) = x / t + y / t := IntWalk.i64_in _ (by omega)
  refine wp_region_quiet_below (by kernel_rfl) (by kernel_rfl) ?_
  repeat (go_big_quiet_step (fail))
  refine wpQuiet_nil ?_
  intro _ hw'
  obtain ⟨⟨dq, osq⟩, hw''⟩ := hw'
  subst hw''
  have hb := below_regrown w1 dq osq
  clear k0 k1 l0 W0 W1 W2 W3 W4 W5
  generalize grow (redrawn w1 dq) osq = w4 at *
  have HB4 := Lib.hid (HB.out.trans (hb.mono HB.out.size))
  have R1 := Lib.hid ((hb.block _ (block_lt Q1.out)).trans Q1.out)
  have R2 := Lib.hid ((hb.block _ (block_lt Q2.out)).trans Q2.out)
  have Q4 := Lib.hid ((hb.block _ (block_lt Q3.out)).trans Q3.out)
  clear hb
  have k0 := ((cell_of_row w4 _ 0 _ _ (0, 0) R1.out).trans rfl)
  have k1 := ((cell_of_row w4 _ 1 _ _ (0, 0) R1.out).trans rfl)
  have k2 := ((cell_of_row w4 _ 2 _ _ (0, 0) R1.out).trans rfl)
  have k3 := ((cell_of_row w4 _ 3 _ _ (0, 0) R1.out).trans rfl)
  have j0 := ((cell_of_row w4 _ 0 _ _ (0, 0) R2.out).trans rfl)
  have j1 := ((cell_of_row w4 _ 1 _ _ (0, 0) R2.out).trans rfl)
  have j2 := ((cell_of_row w4 _ 2 _ _ (0, 0) R2.out).trans rfl)
  obtain ⟨m, hm⟩ : ∃ m : Nat, x / t + y / t = m := ⟨(x / t + y / t).toNat, by omega⟩
  have hand := pm.and_1 (c := m) (by omega)
  rw [← hm] at hand
  have HV : Hid (pm.res 18 [t] c x y wd = if (x / t + y / t) % 2 = 1 then pm.all 0 [t] c else c) := Lib.hid rfl
  by_cases hodd : (x / t + y / t) % 2 = 1
  · have B1 : (bits BinOp.and IntKind.i64 (x / t + y / t) 1 == 1) = true := by rw [hand]; simp; omega
    have HO := Lib.hid hodd
    have HM := Lib.hid hm
    clear hodd hm hand
    go_wp2_with fail
    have HA4 := Lib.hid (HA.out.below HB4.out)
    clear k0 k1 k2 k3 j0 j1 j2
    refine wp_region_laid_tail (D := fun i => 22 + i) (R := fun i v w => match i with | 0 => DoIs (.each 33) v w | 1 => v = .slice (some ⟨b, off, none⟩) 1 cap | 2 => v = .agg #[.int .u16 c.r, .int .u16 c.g, .int .u16 c.b, .int .u16 c.a] | 3 => v = .agg #[.int .i64 x, .int .i64 y, .int .i64 wd] | _ => v = (pm.all 0 [t] c).val)
      (S := fun a w' => (a.tmps[0]? = some (.slice (some ⟨b, off, none⟩) 1 cap) ∧ a.tmps[4]? = some (.pointer (some ⟨w.heap.size, 0, none⟩)) ∧ a.tmps[5]? = some (.pointer (some ⟨w.heap.size + 1, 0, none⟩))) ∧ Below w4.heap.size w4 w')
      5 rfl (by kernel_rfl) (by kernel_rfl) (by kernel_rfl) (by kernel_rfl) ?_ ?_ ?_ ?_
    · intro i v u u' h hb
      match i, h with
      | 0, h => exact DoIs.below h hb
      | 1, h => exact h
      | 2, h => exact h
      | 3, h => exact h
      | n + 4, h => exact h
    · intro a u hb _ hold
      exact ⟨⟨hold 0 (by intro i _; show 22 + i ≠ _; omega), hold 4 (by intro i _; show 22 + i ≠ _; omega), hold 5 (by intro i _; show 22 + i ≠ _; omega)⟩, hb⟩
    · refine ⟨do_each 33 _ rfl rfl, od_move 0 _ rfl (fun a u h => h.1.1) (fun _ => rfl),
        od_load_row 4 _ _ _ _ _ rfl (fun a u h => ⟨h.1.2.1, (h.2.block _ (block_lt R1.out)).trans R1.out⟩) Try.underlying33 rfl colSize (fun _ => rfl),
        od_load_row 5 _ _ _ _ _ rfl (fun a u h => ⟨h.1.2.2, (h.2.block _ (block_lt R2.out)).trans R2.out⟩) Try.underlying64 rfl (by kernel_rfl) (fun _ => rfl), ?_, trivial⟩
      intro a u hS hd
      obtain ⟨v0, e0, bf, rfl, hf⟩ := hd 0 (by kernel_rfl)
      obtain ⟨_, e1, rfl⟩ := hd 1 (by kernel_rfl)
      obtain ⟨_, e2, rfl⟩ := hd 2 (by kernel_rfl)
      obtain ⟨_, e3, rfl⟩ := hd 3 (by kernel_rfl)
      refine wp_call3 22 23 24 25 _ rfl _ _ _ _ _ e0 e1 e2 e3 (enters_of Try.func65 (by kernel_rfl) rfl) (each1 (enters_of Try.func33 (by kernel_rfl) rfl) [t] c _ _ _ _ bf u (each0_at _ _ _ _) HC.out (HA4.out.below hS.2) hf) ?_
      rintro e u' ⟨rfl, hb⟩
      exact ⟨_, rfl, _, rfl, rfl, hb⟩
    · intro a u h
      obtain ⟨_, e4, rfl⟩ := h.new 4 (by omega) (by decide +kernel)
      have e6 : a.tmps[6]? = some (.pointer (some ⟨w.heap.size + 1 + 1, 0, none⟩)) := h.old 6 (by intro i _; show 22 + i ≠ _; omega)
      have HB5 := Lib.hid (HB4.out.trans (h.below.mono HB4.out.size))
      have Q5 := Lib.hid ((h.below.block _ (block_lt Q4.out)).trans Q4.out)
      have hdf : a.defers = [] := h.defers
      clear h
      refine wpList_store_row rfl 33 _ _ rfl (w.heap.size + 1 + 1) _ (eval_tmp e6) (eval_tmp e4) 33 _ Q5.out colSize rfl (by simp [Value.oneCell']) ?_
      obtain ⟨tmps, defers⟩ := a
      simp only at hdf e4 e6
      subst hdf
      go_wp2_with fail
      exact bodyPost_ret (v := (pm.all 0 [t] c).val) (results_cell_row (p := 6) (ty := 33) rfl _ _ (w.heap.size + 1 + 1) 33 _ (0, 0) _ (by show tmps.getD 6 undef = _; simp [e6]) (setRow_heap u _ _ _ _ _ Q5.out) Try.underlying33 rfl colSize) rfl ⟨by rw [HV.out, if_pos HO.out], below_setRow HB5.out (by omega) _⟩
  · have B1 : (bits BinOp.and IntKind.i64 (x / t + y / t) 1 == 1) = false := by rw [hand]; simp; omega
    have HO := Lib.hid hodd
    have HM := Lib.hid hm
    clear hodd hm hand
    go_wp2_with (with_reducible refine wpList_store_row rfl 33 _ _ rfl (w.heap.size + 1 + 1) _ rfl rfl 33 _ Q4.out (colSize4 _ _ _ _) (colSz _ _ _ _ _ _ _ _) (colOne _ _ _ _) ?_)
    exact bodyPost_ret (v := .agg #[.int .u16 c.r, .int .u16 c.g, .int .u16 c.b, .int .u16 c.a]) (results_cell_row (p := 6) (ty := 33) rfl _ _ (w.heap.size + 1 + 1) 33 _ (0, 0) _ rfl (setRow_heap w4 _ _ _ _ _ Q4.out) Try.underlying33 rfl colSize) rfl ⟨by rw [HV.out, if_neg HO.out]; rfl, below_setRow HB4.out (by omega) _⟩

set_option maxRecDepth 100000 in
set_option maxHeartbeats 1600000 in
theorem dir16 : DirF 56 16 := by
  intro a c x y wd p n cap w h hc _ hA
  have HC := Lib.hid hc
  have HK := Lib.hid h
  have HA := Lib.hid hA
  clear hc hA h
  go_enter Try.func56, Try.ntmps56
  go_wp2_with fail
  have HB := Lib.hid (below3 w (.cells #[.int .u16 c.r, .int .u16 c.g, .int .u16 c.b, .int .u16 c.a] 33) (.cells #[.int .i64 x, .int .i64 y, .int .i64 wd] 64) (.cells #[.int .u16 0, .int .u16 0, .int .u16 0, .int .u16 0] 33))
  obtain ⟨q1, q2, q3⟩ := heap3 w (.cells #[.int .u16 c.r, .int .u16 c.g, .int .u16 c.b, .int .u16 c.a] 33) (.cells #[.int .i64 x, .int .i64 y, .int .i64 wd] 64) (.cells #[.int .u16 0, .int .u16 0, .int .u16 0, .int .u16 0] 33)
  generalize (((w.alloc (.cells #[.int .u16 c.r, .int .u16 c.g, .int .u16 c.b, .int .u16 c.a] 33)).alloc (.cells #[.int .i64 x, .int .i64 y, .int .i64 wd] 64)).alloc (.cells #[.int .u16 0, .int .u16 0, .int .u16 0, .int .u16 0] 33)) = w1 at *
  have Q1 := Lib.hid q1
  have Q3 := Lib.hid q3
  have Q2 := Lib.hid q2
  clear q1 q2 q3
  have HA1 := Lib.hid (HA.out.below HB.out)
  refine wp_region_laid_tail (D := fun i => 7 + i) (R := fun i v w => match i with | 0 => DoIs (.three 57) v w | 1 => v = .slice p n cap | 2 => v = .agg #[.int .u16 c.r, .int .u16 c.g, .int .u16 c.b, .int .u16 c.a] | 3 => v = .agg #[.int .i64 x, .int .i64 y, .int .i64 wd] | _ => v = (pm.all3 16 a c).val)
    (S := fun a w' => (a.tmps[0]? = some (.slice p n cap) ∧ a.tmps[4]? = some (.pointer (some ⟨w.heap.size, 0, none⟩)) ∧ a.tmps[5]? = some (.pointer (some ⟨w.heap.size + 1, 0, none⟩))) ∧ Below w1.heap.size w1 w')
    5 rfl (by kernel_rfl) (by kernel_rfl) (by kernel_rfl) (by kernel_rfl) ?_ ?_ ?_ ?_
  · intro i v u u' h hb
    match i, h with
    | 0, h => exact DoIs.below h hb
    | 1, h => exact h
    | 2, h => exact h
    | 3, h => exact h
    | n + 4, h => exact h
  · intro a u hb _ hold
    exact ⟨⟨hold 0 (by intro i _; show 7 + i ≠ _; omega), hold 4 (by intro i _; show 7 + i ≠ _; omega), hold 5 (by intro i _; show 7 + i ≠ _; omega)⟩, hb⟩
  · refine ⟨do_three 57 _ rfl rfl, od_move 0 _ rfl (fun a u h => h.1.1) (fun _ => rfl),
      od_load_row 4 _ _ _ _ _ rfl (fun a u h => ⟨h.1.2.1, (h.2.block _ (block_lt Q1.out)).trans Q1.out⟩) Try.underlying33 rfl colSize (fun _ => rfl),
      od_load_row 5 _ _ _ _ _ rfl (fun a u h => ⟨h.1.2.2, (h.2.block _ (block_lt Q2.out)).trans Q2.out⟩) Try.underlying64 rfl (by kernel_rfl) (fun _ => rfl), ?_, trivial⟩
    intro a' u hS hd
    obtain ⟨v0, e0, bf, rfl, hf⟩ := hd 0 (by kernel_rfl)
    obtain ⟨_, e1, rfl⟩ := hd 1 (by kernel_rfl)
    obtain ⟨_, e2, rfl⟩ := hd 2 (by kernel_rfl)
    obtain ⟨_, e3, rfl⟩ := hd 3 (by kernel_rfl)
    refine wp_call3 7 8 9 10 _ rfl _ _ _ _ _ e0 e1 e2 e3 (enters_of Try.func68 (by kernel_rfl) rfl) (three1 (enters_of Try.func57 (by kernel_rfl) rfl) three16 a c _ _ _ _ bf u HK.out HC.out (HA1.out.below hS.2) hf) ?_
    rintro e u' ⟨rfl, hb⟩
    exact ⟨_, rfl, _, rfl, rfl, hb⟩
  · intro a' u h
    obtain ⟨_, e11, rfl⟩ := h.new 4 (by omega) (by decide +kernel)
    obtain ⟨v7, e7, _⟩ := h.new 0 (by omega) (by decide +kernel)
    obtain ⟨v8, e8, _⟩ := h.new 1 (by omega) (by decide +kernel)
    obtain ⟨v9, e9, _⟩ := h.new 2 (by omega) (by decide +kernel)
    obtain ⟨v10, e10, _⟩ := h.new 3 (by omega) (by decide +kernel)
    have e4 : a'.tmps[4]? = some (.pointer (some ⟨w.heap.size, 0, none⟩)) := h.old 4 (by intro i _; show 7 + i ≠ _; omega)
    have e6 : a'.tmps[6]? = some (.pointer (some ⟨w.heap.size + 1 + 1, 0, none⟩)) := h.old 6 (by intro i _; show 7 + i ≠ _; omega)
    have hsz : a'.tmps.size = 14 := h.size
    have HB5 := Lib.hid (HB.out.trans (h.below.mono HB.out.size))
    have R5 := Lib.hid ((h.below.block _ (block_lt Q1.out)).trans Q1.out)
    have Q5 := Lib.hid ((h.below.block _ (block_lt Q3.out)).trans Q3.out)
    have hdf : a'.defers = [] := h.defers
    clear h
    have HB6 := Lib.hid (below_setRow HB5.out (Nat.le_refl _) #[.int .u16 (pm.all3 16 a c).r, .int .u16 (pm.all3 16 a c).g, .int .u16 (pm.all3 16 a c).b, .int .u16 (pm.all3 16 a c).a])
    have R6 := Lib.hid (setRow_heap u w.heap.size _ #[.int .u16 (pm.all3 16 a c).r, .int .u16 (pm.all3 16 a c).g, .int .u16 (pm.all3 16 a c).b, .int .u16 (pm.all3 16 a c).a] _ _ R5.out)
    have Q6 := Lib.hid ((setRow_other u w.heap.size (w.heap.size + 1 + 1) #[.int .u16 (pm.all3 16 a c).r, .int .u16 (pm.all3 16 a c).g, .int .u16 (pm.all3 16 a c).b, .int .u16 (pm.all3 16 a c).a] (by omega)).trans Q5.out)
    have HV : Hid (pm.res 16 a c x y wd = ⟨(pm.all3 16 a c).r, (pm.all3 16 a c).g, (pm.all3 16 a c).b, 65535⟩) := Lib.hid rfl
    obtain ⟨tmps, defers⟩ := a'
    simp only at hdf hsz e4 e6 e7 e8 e9 e10 e11
    subst hdf
    obtain ⟨l⟩ := tmps
    match l, hsz with
    | [x0, x1, x2, x3, x4, x5, x6, x7, x8, x9, x10, x11, x12, x13], _ =>
      obtain rfl : x4 = .pointer (some ⟨w.heap.size, 0, none⟩) := by simpa using e4
      obtain rfl : x6 = .pointer (some ⟨w.heap.size + 1 + 1, 0, none⟩) := by simpa using e6
      obtain rfl : x11 = (pm.all3 16 a c).val := by simpa using e11
      clear e4 e6 e7 e8 e9 e10 e11
      refine wpList_store_row rfl 33 _ _ rfl w.heap.size #[.int .u16 (pm.all3 16 a c).r, .int .u16 (pm.all3 16 a c).g, .int .u16 (pm.all3 16 a c).b, .int .u16 (pm.all3 16 a c).a] rfl rfl 33 _ R5.out colSize rfl (by simp [Value.oneCell']) ?_
      clear R5 Q5 HB5
      generalize u.setRow w.heap.size #[.int .u16 (pm.all3 16 a c).r, .int .u16 (pm.all3 16 a c).g, .int .u16 (pm.all3 16 a c).b, .int .u16 (pm.all3 16 a c).a] = w4 at *
      generalize pm.all3 16 a c = d at *
      have R1 := R6
      have Q4 := Q6
      have k3 := ((cell_of_row w4 _ 3 _ _ (0, 0) R1.out).trans rfl)
      have f3 := frozen_of_row w4 _ 3 _ _ R1.out
      have R5 := Lib.hid (col_set3 (x := 65535) R1.out)
      have Q5 := Lib.hid ((Below.heap_setCell w4 ⟨w.heap.size, 3, none⟩ (.int .u16 (65535)) (w.heap.size + 1 + 1) (by simp; omega)).trans Q4.out)
      have n0 := ((cell_of_row (w4.setCell ⟨w.heap.size, 3, none⟩ (.int .u16 (65535))) _ 0 _ _ (0, 0) R5.out).trans rfl)
      have n1 := ((cell_of_row (w4.setCell ⟨w.heap.size, 3, none⟩ (.int .u16 (65535))) _ 1 _ _ (0, 0) R5.out).trans rfl)
      have n2 := ((cell_of_row (w4.setCell ⟨w.heap.size, 3, none⟩ (.int .u16 (65535))) _ 2 _ _ (0, 0) R5.out).trans rfl)
      have n3 := ((cell_of_row (w4.setCell ⟨w.heap.size, 3, none⟩ (.int .u16 (65535))) _ 3 _ _ (0, 0) R5.out).trans rfl)
      go_wp2_with (with_reducible refine wpList_store_row rfl 33 _ _ rfl (w.heap.size + 1 + 1) _ rfl rfl 33 _ Q5.out (colSize4 _ _ _ _) (colSz _ _ _ _ _ _ _ _) (colOne _ _ _ _) ?_)
      exact bodyPost_ret (v := .agg #[.int .u16 d.r, .int .u16 d.g, .int .u16 d.b, .int .u16 (65535)]) (results_cell_row (p := 6) (ty := 33) rfl _ _ (w.heap.size + 1 + 1) 33 _ (0, 0) _ rfl (setRow_heap (w4.setCell ⟨w.heap.size, 3, none⟩ (.int .u16 (65535))) _ _ _ _ _ Q5.out) Try.underlying33 rfl colSize) rfl ⟨by rw [HV.out]; rfl, below_setRow (HB6.out.setCell (p := ⟨w.heap.size, 3, none⟩) (Nat.le_refl _) _) (by omega) _⟩
end Go.Proofs.Ytdemndjenlhahaa
