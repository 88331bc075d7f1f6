/- quant.longest: along which sample colours spread most; its closure; slices.MaxFunc, MinFunc at colours. -/
import Derived.Test.YtioeifbobhdccaaGreatDoorM14
import Derived.Test.YtioeifbobhdccaaGreatDoorM23
namespace Go.Proofs.YtioeifbobhdccaaGreatDoor
open Go.RowKit Go.Sort Go.Shelf
attribute [local go_sem] Oper.semAt_some
def PickPost (t : List C4) (w : World) (e : Ending) (w' : World) : Prop := ∃ c, c ∈ t ∧ e = .returned (.agg #[.int .u16 c.r, .int .u16 c.g, .int .u16 c.b, .int .u16 c.a]) ∧ Below w.heap.size w w'
theorem results_cell {P : Program} {fn : Func} {p : Tmp} {ty : TypeId} (h : fn.results = #[.cell p ty]) (tmps : Array Value) (w : World) (g : Nat) (t : TypeId) (cs : Array Value) (fr : Nat × Nat) (d : TypeDesc)
    (hp : tmps.getD p undef = .pointer (some ⟨g, 0, none⟩)) (hg : w.heap[g]? = some (.cells cs t fr))
    (hu : P.underlying ty = some d) (hd : (match d with | .struct _ | .array _ _ => true | _ => false) = true) (hi : (P.info? ty).map (·.size) = some cs.size) :
    (results fn tmps).run P w = .ok (.agg cs) w := by
  have hp' : tmps[p]?.getD undef = .pointer (some ⟨g, 0, none⟩) := by simpa using hp
  simp [results, h, hp', asAddr, run_loadVar_row w g t ty cs fr d hg hu hd hi]
set_option maxRecDepth 100000 in
set_option maxHeartbeats 800000 in
theorem lcmp_val (c d : C4) (hc : c.ok) (hd : d.ok) (k : Nat) (hk : k < 3) (kb : Nat) (w : World) (hkb : w.cell? ⟨kb, 0, none⟩ = some (.int .i64 (k : Nat))) :
    Calls Tryz.prog 83 #[.agg #[.int .u16 c.r, .int .u16 c.g, .int .u16 c.b, .int .u16 c.a], .agg #[.int .u16 d.r, .int .u16 d.g, .int .u16 d.b, .int .u16 d.a], .pointer (some ⟨kb, 0, none⟩)] w fun e w' => e = .returned (.int .i64 (cmpV (c.axis k) (d.axis k))) ∧ Below w.heap.size w w' := by
  obtain ⟨q0, q1⟩ := heap2 w (.cells #[.int .u16 c.r, .int .u16 c.g, .int .u16 c.b, .int .u16 c.a] 38) (.cells #[.int .u16 d.r, .int .u16 d.g, .int .u16 d.b, .int .u16 d.a] 38)
  have B0 := Lib.hid (((Below.refl w.heap.size w).alloc (Nat.le_refl _) (.cells #[.int .u16 c.r, .int .u16 c.g, .int .u16 c.b, .int .u16 c.a] 38)).alloc (by simp) (.cells #[.int .u16 d.r, .int .u16 d.g, .int .u16 d.b, .int .u16 d.a] 38))
  have Q0 := Lib.hid q0
  have Q1 := Lib.hid q1
  have kk := keep_cell B0.out hkb
  have A0 := Lib.hid (fun w => axis_grown c hc k hk w)
  have A1 := Lib.hid (fun w => axis_grown d hd k hk w)
  obtain ⟨x, hx⟩ : ∃ x, c.axis k = x := ⟨_, rfl⟩
  obtain ⟨y, hy⟩ : ∃ y, d.axis k = y := ⟨_, rfl⟩
  rw [hx] at A0
  rw [hx, hy]
  rw [hy] at A1
  have A2 := Lib.hid (fun w => compare_grown x y w)
  obtain ⟨z, hz⟩ : ∃ z, cmpV x y = z := ⟨_, rfl⟩
  rw [hz] at A2 ⊢
  clear q0 q1 hkb hx hy hz
  go_enter Tryz.func83, Tryz.ntmps83
  go_wp2_with fail
  generalize (w.alloc (.cells #[.int .u16 c.r, .int .u16 c.g, .int .u16 c.b, .int .u16 c.a] 38)).alloc (.cells #[.int .u16 d.r, .int .u16 d.g, .int .u16 d.b, .int .u16 d.a] 38) = w1 at *
  have x0 := cell_regrown ((cell_of_row w1 _ 0 _ _ (0, 0) Q0.out).trans (show _ = some (Value.int .u16 c.r) from rfl))
  have x1 := cell_regrown ((cell_of_row w1 _ 1 _ _ (0, 0) Q0.out).trans (show _ = some (Value.int .u16 c.g) from rfl))
  have x2 := cell_regrown ((cell_of_row w1 _ 2 _ _ (0, 0) Q0.out).trans (show _ = some (Value.int .u16 c.b) from rfl))
  have x3 := cell_regrown ((cell_of_row w1 _ 3 _ _ (0, 0) Q0.out).trans (show _ = some (Value.int .u16 c.a) from rfl))
  have y0 := cell_regrown ((cell_of_row w1 _ 0 _ _ (0, 0) Q1.out).trans (show _ = some (Value.int .u16 d.r) from rfl))
  have y1 := cell_regrown ((cell_of_row w1 _ 1 _ _ (0, 0) Q1.out).trans (show _ = some (Value.int .u16 d.g) from rfl))
  have y2 := cell_regrown ((cell_of_row w1 _ 2 _ _ (0, 0) Q1.out).trans (show _ = some (Value.int .u16 d.b) from rfl))
  have y3 := cell_regrown ((cell_of_row w1 _ 3 _ _ (0, 0) Q1.out).trans (show _ = some (Value.int .u16 d.a) from rfl))
  have k0 := cell_regrown kk
  refine wp_region_quiet_below (by kernel_rfl) (by kernel_rfl) ?_
  go_big_quiet_step (fail)
  go_big_quiet_step (fail)
  go_big_quiet_step (exact A0.out _ _ _)
  go_big_quiet_step (fail)
  go_big_quiet_step (fail)
  go_big_quiet_step (exact A1.out _ _ _)
  go_big_quiet_step (exact A2.out _ _ _)
  go_big_quiet_step (fail)
  refine wpQuiet_nil ?_
  intro _ hw'
  obtain ⟨⟨dq, osq⟩, hw''⟩ := hw'
  subst hw''
  have HB5 := Lib.hid (B0.out.trans ((below_regrown w1 dq osq).mono B0.out.size))
  clear x0 x1 x2 x3 y0 y1 y2 y3 k0
  generalize grow (redrawn w1 dq) osq = w5 at *
  go_wp2_with fail
  go_ret
  exact ⟨rfl, HB5.out⟩
set_option maxRecDepth 100000 in
set_option maxHeartbeats 1600000 in
theorem max_any (b off n cap kb k : Nat) (t : List C4) (w : World) (h : RdC w (some ⟨b, off, none⟩) t) (hn : t.length = n) (hn0 : 1 ≤ n) (hn6 : n ≤ 1099511627776) (hcap : n ≤ cap) (hok : okAll t) (hk : k < 3) (hkb : w.cell? ⟨kb, 0, none⟩ = some (.int .i64 (k : Nat))) :
    Calls Tryz.prog 84 #[.slice (some ⟨b, off, none⟩) n cap, .func (.func 83) #[] #[.pointer (some ⟨kb, 0, none⟩)]] w (PickPost t w) := by
  have HN := Lib.hid hn
  have HOK := Lib.hid hok
  have HKB := Lib.hid hkb
  have hcell : ∀ i, i < n → w.cell? ⟨b, off + i * 4, none⟩ = some (.int .u16 (t.getD i C4.zero).r) ∧ w.cell? ⟨b, off + i * 4 + 1, none⟩ = some (.int .u16 (t.getD i C4.zero).g) ∧ w.cell? ⟨b, off + i * 4 + 2, none⟩ = some (.int .u16 (t.getD i C4.zero).b) ∧ w.cell? ⟨b, off + i * 4 + 3, none⟩ = some (.int .u16 (t.getD i C4.zero).a) := by
    rcases h with h0 | ⟨b', off', e, h1⟩
    · rw [h0] at hn; simp at hn; omega
    · cases e
      rw [hn] at h1
      exact h1
  have HCE := Lib.hid hcell
  have hget : ∀ i, i < n → t[i]? = some (t.getD i C4.zero) := by
    intro i hi
    rw [List.getD_eq_getElem?_getD, List.getElem?_eq_getElem (by omega)]
    rfl
  have HGE := Lib.hid hget
  have q0 := heap_alloc_new w (.cells #[.int .u16 0, .int .u16 0, .int .u16 0, .int .u16 0] 38)
  have B0 := Lib.hid ((Below.refl w.heap.size w).alloc (Nat.le_refl _) (.cells #[.int .u16 0, .int .u16 0, .int .u16 0, .int .u16 0] 38))
  have Q0 := Lib.hid q0
  obtain ⟨c0, hc0⟩ : ∃ c, t.getD 0 C4.zero = c := ⟨_, rfl⟩
  have hc0m : c0 ∈ t := by rw [← hc0]; exact List.mem_of_getElem? (hget 0 (by omega))
  obtain ⟨p0, p1, p2, p3⟩ := hcell 0 (by omega)
  rw [hc0] at p0 p1 p2 p3
  have HM0 := Lib.hid hc0m
  clear h hn hok hkb hcell hget q0 hc0 hc0m
  go_enter Tryz.func84, Tryz.ntmps84
  go_upto_region 1 with (fail)
  obtain ⟨zb, hzb⟩ : ∃ b, w.heap.size = b := ⟨_, rfl⟩
  have HZB := Lib.hid hzb
  rw [hzb] at Q0 ⊢
  have x0 := keep_cell B0.out p0
  have x1 := keep_cell B0.out p1
  have x2 := keep_cell B0.out p2
  have x3 := keep_cell B0.out p3
  have hS0 : (w.alloc (.cells #[.int .u16 0, .int .u16 0, .int .u16 0, .int .u16 0] 38)).heap.size = zb + 1 := by simp [hzb]
  generalize w.alloc (.cells #[.int .u16 0, .int .u16 0, .int .u16 0, .int .u16 0] 38) = w0 at *
  clear p0 p1 p2 p3 hzb
  have hn1 : ¬ ((n : Int) < 1) := by omega
  have hn2 : (0 : Int) < (n : Int) := by omega
  rw [show off + 0 * 4 = off by omega] at x0 x1 x2 x3
  go_upto_region 4 with (fail)
  have q1 := heap_alloc_new w0 (.cells #[.int .u16 c0.r, .int .u16 c0.g, .int .u16 c0.b, .int .u16 c0.a] 38)
  have hB1 : Below w0.heap.size w0 (w0.alloc (.cells #[.int .u16 c0.r, .int .u16 c0.g, .int .u16 c0.b, .int .u16 c0.a] 38)) := (Below.refl _ _).alloc (Nat.le_refl _) _
  rw [hS0] at q1
  generalize w0.alloc (.cells #[.int .u16 c0.r, .int .u16 c0.g, .int .u16 c0.b, .int .u16 c0.a] 38) = w1 at *
  have Q1 := Lib.hid q1
  have HB1 := Lib.hid (B0.out.trans (hB1.mono B0.out.size))
  have Q01 := Lib.hid ((hB1.block _ (block_lt Q0.out)).trans Q0.out)
  clear x0 x1 x2 x3 hB1 hS0 q1 hn1 hn2 Q0
  go_wp2_with fail
  go_loopg [6] (n - 1) (fun gk s6 wr => ∃ (i : Nat) (c : C4), 1 ≤ i ∧ i ≤ n ∧ gk = n - i ∧ s6 = .int .i64 (i : Nat) ∧ c ∈ t ∧ wr.heap[zb + 1]? = some (.cells #[.int .u16 c.r, .int .u16 c.g, .int .u16 c.b, .int .u16 c.a] 38 (0, 0)) ∧ wr.heap[zb]? = some (.cells #[.int .u16 0, .int .u16 0, .int .u16 0, .int .u16 0] 38 (0, 0)) ∧ Below w.heap.size w wr)
  case atStart => exact ⟨1, c0, Nat.le_refl _, hn0, rfl, rfl, HM0.out, Q1.out, Q01.out, HB1.out⟩
  case round =>
    obtain ⟨i, c, hi1, hi2, hgk, rfl, hcm, hmb, hz, hbw⟩ := hrel
    have Hg := Lib.hid hgk
    have HCM := Lib.hid hcm
    have HMB := Lib.hid hmb
    have HZ := Lib.hid hz
    have HBW := Lib.hid hbw
    clear hgk hcm hmb hz hbw
    by_cases hlt : i < n
    · obtain ⟨k0, k1, k2, k3⟩ := HCE.out i hlt
      obtain ⟨d, hd⟩ : ∃ c, t.getD i C4.zero = c := ⟨_, rfl⟩
      have hdm : d ∈ t := by rw [← hd]; exact List.mem_of_getElem? (HGE.out i hlt)
      rw [hd] at k0 k1 k2 k3
      have HDM := Lib.hid hdm
      have u0 := cell_regrown (keep_cell HBW.out k0)
      have u1 := cell_regrown (keep_cell HBW.out k1)
      have u2 := cell_regrown (keep_cell HBW.out k2)
      have u3 := cell_regrown (keep_cell HBW.out k3)
      have v0 := cell_regrown ((cell_of_row wr _ 0 _ _ (0, 0) HMB.out).trans (show _ = some (Value.int .u16 c.r) from rfl))
      have v1 := cell_regrown ((cell_of_row wr _ 1 _ _ (0, 0) HMB.out).trans (show _ = some (Value.int .u16 c.g) from rfl))
      have v2 := cell_regrown ((cell_of_row wr _ 2 _ _ (0, 0) HMB.out).trans (show _ = some (Value.int .u16 c.b) from rfl))
      have v3 := cell_regrown ((cell_of_row wr _ 3 _ _ (0, 0) HMB.out).trans (show _ = some (Value.int .u16 c.a) from rfl))
      obtain ⟨zc, hzc⟩ : ∃ z : Int, ∀ q os, Calls Tryz.prog 83 #[.agg #[.int .u16 d.r, .int .u16 d.g, .int .u16 d.b, .int .u16 d.a], .agg #[.int .u16 c.r, .int .u16 c.g, .int .u16 c.b, .int .u16 c.a], .pointer (some ⟨kb, 0, none⟩)] (grow (redrawn wr q) os) fun e w'' => e = .returned (.int .i64 z) ∧ ∃ p : Regrown, w'' = grow (redrawn wr p.d) p.os :=
        ⟨_, fun q os => Calls.regrown_of (lcmp_val d c (HOK.out d hdm) (HOK.out c HCM.out) k hk kb _ (cell_regrown (keep_cell HBW.out HKB.out) q os))⟩
      have HZC := Lib.hid hzc
      have hi3 : (i : Int) < (n : Int) := by omega
      clear hd hdm hzc
      go_upto_region 7 with (fail)
      refine wp_region_quiet_below (by kernel_rfl) (by kernel_rfl) ?_
      repeat (go_big_quiet_step (exact HZC.out _ _))
      refine wpQuiet_nil ?_
      intro _ hw'
      obtain ⟨⟨dq, osq⟩, hw''⟩ := hw'
      subst hw''
      have hbq := below_regrown wr dq osq
      have HMB4 := Lib.hid ((hbq.block _ (block_lt HMB.out)).trans HMB.out)
      have HZ4 := Lib.hid ((hbq.block _ (block_lt HZ.out)).trans HZ.out)
      have HBW4 := Lib.hid (HBW.out.trans (hbq.mono HBW.out.size))
      have HCE4 := Lib.hid (keep_cell HBW4.out k0)
      have z0 := keep_cell HBW4.out k0
      have z1 := keep_cell HBW4.out k1
      have z2 := keep_cell HBW4.out k2
      have z3 := keep_cell HBW4.out k3
      clear u0 u1 u2 u3 v0 v1 v2 v3 k0 k1 k2 k3 hbq HZC
      generalize grow (redrawn wr dq) osq = w4 at *
      by_cases hz0 : 0 < zc
      · have hz1 : decide (0 < zc) = true := decide_eq_true hz0
        rw [hz1]
        clear hz0 hz1
        go_upto_region 6 with (refine wpList_store_row rfl 38 _ _ rfl (zb + 1) #[.int .u16 d.r, .int .u16 d.g, .int .u16 d.b, .int .u16 d.a] rfl rfl 38 _ HMB4.out (colSize4 _ _ _ _) rfl (colOne _ _ _ _) ?_)
        have hm5 := setRow_heap w4 (zb + 1) _ #[.int .u16 d.r, .int .u16 d.g, .int .u16 d.b, .int .u16 d.a] _ _ HMB4.out
        have hz5 := (heap_setRow_other w4 (zb + 1) #[.int .u16 d.r, .int .u16 d.g, .int .u16 d.b, .int .u16 d.a] (show zb ≠ zb + 1 by omega)).trans HZ4.out
        have hb5 := below_setRow (g := zb + 1) HBW4.out (by have := HZB.out; omega) #[.int .u16 d.r, .int .u16 d.g, .int .u16 d.b, .int .u16 d.a]
        have HM5 := Lib.hid hm5
        have HZ5 := Lib.hid hz5
        have HB5 := Lib.hid hb5
        clear z0 z1 z2 z3 hm5 hz5 hb5
        generalize w4.setRow (zb + 1) #[.int .u16 d.r, .int .u16 d.g, .int .u16 d.b, .int .u16 d.a] = w5 at *
        go_wp2_with fail
        go_roundg (n - (i + 1))
        case measure => have := Hg.out; omega
        case rel => exact ⟨i + 1, d, by omega, by omega, rfl, by go_num, HDM.out, HM5.out, HZ5.out, HB5.out⟩
      · have hz1 : decide (0 < zc) = false := decide_eq_false hz0
        rw [hz1]
        clear hz0 hz1
        go_wp2_with fail
        go_roundg (n - (i + 1))
        case measure => have := Hg.out; omega
        case rel => exact ⟨i + 1, c, by omega, by omega, rfl, by go_num, HCM.out, HMB4.out, HZ4.out, HBW4.out⟩
    · obtain rfl : i = n := by omega
      have v0 := (cell_of_row wr _ 0 _ _ (0, 0) HMB.out).trans (show _ = some (Value.int .u16 c.r) from rfl)
      have v1 := (cell_of_row wr _ 1 _ _ (0, 0) HMB.out).trans (show _ = some (Value.int .u16 c.g) from rfl)
      have v2 := (cell_of_row wr _ 2 _ _ (0, 0) HMB.out).trans (show _ = some (Value.int .u16 c.b) from rfl)
      have v3 := (cell_of_row wr _ 3 _ _ (0, 0) HMB.out).trans (show _ = some (Value.int .u16 c.a) from rfl)
      go_wp2_with (refine wpList_store_row rfl 38 _ _ rfl zb #[.int .u16 c.r, .int .u16 c.g, .int .u16 c.b, .int .u16 c.a] rfl rfl 38 _ HZ.out (colSize4 _ _ _ _) rfl (colOne _ _ _ _) ?_)
      refine bodyPost_ret (results_cell (p := 4) (ty := 38) rfl _ _ zb 38 _ (0, 0) _ rfl (setRow_heap _ _ _ _ _ _ HZ.out) Tryz.underlying38 rfl (colSize4 _ _ _ _)) rfl ?_
      exact ⟨c, HCM.out, rfl, below_setRow HBW.out (by have := HZB.out; omega) _⟩
set_option maxRecDepth 100000 in
set_option maxHeartbeats 1600000 in
theorem min_any (b off n cap kb k : Nat) (t : List C4) (w : World) (h : RdC w (some ⟨b, off, none⟩) t) (hn : t.length = n) (hn0 : 1 ≤ n) (hn6 : n ≤ 1099511627776) (hcap : n ≤ cap) (hok : okAll t) (hk : k < 3) (hkb : w.cell? ⟨kb, 0, none⟩ = some (.int .i64 (k : Nat))) :
    Calls Tryz.prog 85 #[.slice (some ⟨b, off, none⟩) n cap, .func (.func 83) #[] #[.pointer (some ⟨kb, 0, none⟩)]] w (PickPost t w) := by
  have HN := Lib.hid hn
  have HOK := Lib.hid hok
  have HKB := Lib.hid hkb
  have hcell : ∀ i, i < n → w.cell? ⟨b, off + i * 4, none⟩ = some (.int .u16 (t.getD i C4.zero).r) ∧ w.cell? ⟨b, off + i * 4 + 1, none⟩ = some (.int .u16 (t.getD i C4.zero).g) ∧ w.cell? ⟨b, off + i * 4 + 2, none⟩ = some (.int .u16 (t.getD i C4.zero).b) ∧ w.cell? ⟨b, off + i * 4 + 3, none⟩ = some (.int .u16 (t.getD i C4.zero).a) := by
    rcases h with h0 | ⟨b', off', e, h1⟩
    · rw [h0] at hn; simp at hn; omega
    · cases e
      rw [hn] at h1
      exact h1
  have HCE := Lib.hid hcell
  have hget : ∀ i, i < n → t[i]? = some (t.getD i C4.zero) := by
    intro i hi
    rw [List.getD_eq_getElem?_getD, List.getElem?_eq_getElem (by omega)]
    rfl
  have HGE := Lib.hid hget
  have q0 := heap_alloc_new w (.cells #[.int .u16 0, .int .u16 0, .int .u16 0, .int .u16 0] 38)
  have B0 := Lib.hid ((Below.refl w.heap.size w).alloc (Nat.le_refl _) (.cells #[.int .u16 0, .int .u16 0, .int .u16 0, .int .u16 0] 38))
  have Q0 := Lib.hid q0
  obtain ⟨c0, hc0⟩ : ∃ c, t.getD 0 C4.zero = c := ⟨_, rfl⟩
  have hc0m : c0 ∈ t := by rw [← hc0]; exact List.mem_of_getElem? (hget 0 (by omega))
  obtain ⟨p0, p1, p2, p3⟩ := hcell 0 (by omega)
  rw [hc0] at p0 p1 p2 p3
  have HM0 := Lib.hid hc0m
  clear h hn hok hkb hcell hget q0 hc0 hc0m
  go_enter Tryz.func85, Tryz.ntmps85
  go_upto_region 1 with (fail)
  obtain ⟨zb, hzb⟩ : ∃ b, w.heap.size = b := ⟨_, rfl⟩
  have HZB := Lib.hid hzb
  rw [hzb] at Q0 ⊢
  have x0 := keep_cell B0.out p0
  have x1 := keep_cell B0.out p1
  have x2 := keep_cell B0.out p2
  have x3 := keep_cell B0.out p3
  have hS0 : (w.alloc (.cells #[.int .u16 0, .int .u16 0, .int .u16 0, .int .u16 0] 38)).heap.size = zb + 1 := by simp [hzb]
  generalize w.alloc (.cells #[.int .u16 0, .int .u16 0, .int .u16 0, .int .u16 0] 38) = w0 at *
  clear p0 p1 p2 p3 hzb
  have hn1 : ¬ ((n : Int) < 1) := by omega
  have hn2 : (0 : Int) < (n : Int) := by omega
  rw [show off + 0 * 4 = off by omega] at x0 x1 x2 x3
  go_upto_region 4 with (fail)
  have q1 := heap_alloc_new w0 (.cells #[.int .u16 c0.r, .int .u16 c0.g, .int .u16 c0.b, .int .u16 c0.a] 38)
  have hB1 : Below w0.heap.size w0 (w0.alloc (.cells #[.int .u16 c0.r, .int .u16 c0.g, .int .u16 c0.b, .int .u16 c0.a] 38)) := (Below.refl _ _).alloc (Nat.le_refl _) _
  rw [hS0] at q1
  generalize w0.alloc (.cells #[.int .u16 c0.r, .int .u16 c0.g, .int .u16 c0.b, .int .u16 c0.a] 38) = w1 at *
  have Q1 := Lib.hid q1
  have HB1 := Lib.hid (B0.out.trans (hB1.mono B0.out.size))
  have Q01 := Lib.hid ((hB1.block _ (block_lt Q0.out)).trans Q0.out)
  clear x0 x1 x2 x3 hB1 hS0 q1 hn1 hn2 Q0
  go_wp2_with fail
  go_loopg [6] (n - 1) (fun gk s6 wr => ∃ (i : Nat) (c : C4), 1 ≤ i ∧ i ≤ n ∧ gk = n - i ∧ s6 = .int .i64 (i : Nat) ∧ c ∈ t ∧ wr.heap[zb + 1]? = some (.cells #[.int .u16 c.r, .int .u16 c.g, .int .u16 c.b, .int .u16 c.a] 38 (0, 0)) ∧ wr.heap[zb]? = some (.cells #[.int .u16 0, .int .u16 0, .int .u16 0, .int .u16 0] 38 (0, 0)) ∧ Below w.heap.size w wr)
  case atStart => exact ⟨1, c0, Nat.le_refl _, hn0, rfl, rfl, HM0.out, Q1.out, Q01.out, HB1.out⟩
  case round =>
    obtain ⟨i, c, hi1, hi2, hgk, rfl, hcm, hmb, hz, hbw⟩ := hrel
    have Hg := Lib.hid hgk
    have HCM := Lib.hid hcm
    have HMB := Lib.hid hmb
    have HZ := Lib.hid hz
    have HBW := Lib.hid hbw
    clear hgk hcm hmb hz hbw
    by_cases hlt : i < n
    · obtain ⟨k0, k1, k2, k3⟩ := HCE.out i hlt
      obtain ⟨d, hd⟩ : ∃ c, t.getD i C4.zero = c := ⟨_, rfl⟩
      have hdm : d ∈ t := by rw [← hd]; exact List.mem_of_getElem? (HGE.out i hlt)
      rw [hd] at k0 k1 k2 k3
      have HDM := Lib.hid hdm
      have u0 := cell_regrown (keep_cell HBW.out k0)
      have u1 := cell_regrown (keep_cell HBW.out k1)
      have u2 := cell_regrown (keep_cell HBW.out k2)
      have u3 := cell_regrown (keep_cell HBW.out k3)
      have v0 := cell_regrown ((cell_of_row wr _ 0 _ _ (0, 0) HMB.out).trans (show _ = some (Value.int .u16 c.r) from rfl))
      have v1 := cell_regrown ((cell_of_row wr _ 1 _ _ (0, 0) HMB.out).trans (show _ = some (Value.int .u16 c.g) from rfl))
      have v2 := cell_regrown ((cell_of_row wr _ 2 _ _ (0, 0) HMB.out).trans (show _ = some (Value.int .u16 c.b) from rfl))
      have v3 := cell_regrown ((cell_of_row wr _ 3 _ _ (0, 0) HMB.out).trans (show _ = some (Value.int .u16 c.a) from rfl))
      obtain ⟨zc, hzc⟩ : ∃ z : Int, ∀ q os, Calls Tryz.prog 83 #[.agg #[.int .u16 d.r, .int .u16 d.g, .int .u16 d.b, .int .u16 d.a], .agg #[.int .u16 c.r, .int .u16 c.g, .int .u16 c.b, .int .u16 c.a], .pointer (some ⟨kb, 0, none⟩)] (grow (redrawn wr q) os) fun e w'' => e = .returned (.int .i64 z) ∧ ∃ p : Regrown, w'' = grow (redrawn wr p.d) p.os :=
        ⟨_, fun q os => Calls.regrown_of (lcmp_val d c (HOK.out d hdm) (HOK.out c HCM.out) k hk kb _ (cell_regrown (keep_cell HBW.out HKB.out) q os))⟩
      have HZC := Lib.hid hzc
      have hi3 : (i : Int) < (n : Int) := by omega
      clear hd hdm hzc
      go_upto_region 7 with (fail)
      refine wp_region_quiet_below (by kernel_rfl) (by kernel_rfl) ?_
      repeat (go_big_quiet_step (exact HZC.out _ _))
      refine wpQuiet_nil ?_
      intro _ hw'
      obtain ⟨⟨dq, osq⟩, hw''⟩ := hw'
      subst hw''
      have hbq := below_regrown wr dq osq
      have HMB4 := Lib.hid ((hbq.block _ (block_lt HMB.out)).trans HMB.out)
      have HZ4 := Lib.hid ((hbq.block _ (block_lt HZ.out)).trans HZ.out)
      have HBW4 := Lib.hid (HBW.out.trans (hbq.mono HBW.out.size))
      have HCE4 := Lib.hid (keep_cell HBW4.out k0)
      have z0 := keep_cell HBW4.out k0
      have z1 := keep_cell HBW4.out k1
      have z2 := keep_cell HBW4.out k2
      have z3 := keep_cell HBW4.out k3
      clear u0 u1 u2 u3 v0 v1 v2 v3 k0 k1 k2 k3 hbq HZC
      generalize grow (redrawn wr dq) osq = w4 at *
      by_cases hz0 : zc < 0
      · have hz1 : decide (zc < 0) = true := decide_eq_true hz0
        rw [hz1]
        clear hz0 hz1
        go_upto_region 6 with (refine wpList_store_row rfl 38 _ _ rfl (zb + 1) #[.int .u16 d.r, .int .u16 d.g, .int .u16 d.b, .int .u16 d.a] rfl rfl 38 _ HMB4.out (colSize4 _ _ _ _) rfl (colOne _ _ _ _) ?_)
        have hm5 := setRow_heap w4 (zb + 1) _ #[.int .u16 d.r, .int .u16 d.g, .int .u16 d.b, .int .u16 d.a] _ _ HMB4.out
        have hz5 := (heap_setRow_other w4 (zb + 1) #[.int .u16 d.r, .int .u16 d.g, .int .u16 d.b, .int .u16 d.a] (show zb ≠ zb + 1 by omega)).trans HZ4.out
        have hb5 := below_setRow (g := zb + 1) HBW4.out (by have := HZB.out; omega) #[.int .u16 d.r, .int .u16 d.g, .int .u16 d.b, .int .u16 d.a]
        have HM5 := Lib.hid hm5
        have HZ5 := Lib.hid hz5
        have HB5 := Lib.hid hb5
        clear z0 z1 z2 z3 hm5 hz5 hb5
        generalize w4.setRow (zb + 1) #[.int .u16 d.r, .int .u16 d.g, .int .u16 d.b, .int .u16 d.a] = w5 at *
        go_wp2_with fail
        go_roundg (n - (i + 1))
        case measure => have := Hg.out; omega
        case rel => exact ⟨i + 1, d, by omega, by omega, rfl, by go_num, HDM.out, HM5.out, HZ5.out, HB5.out⟩
      · have hz1 : decide (zc < 0) = false := decide_eq_false hz0
        rw [hz1]
        clear hz0 hz1
        go_wp2_with fail
        go_roundg (n - (i + 1))
        case measure => have := Hg.out; omega
        case rel => exact ⟨i + 1, c, by omega, by omega, rfl, by go_num, HCM.out, HMB4.out, HZ4.out, HBW4.out⟩
    · obtain rfl : i = n := by omega
      have v0 := (cell_of_row wr _ 0 _ _ (0, 0) HMB.out).trans (show _ = some (Value.int .u16 c.r) from rfl)
      have v1 := (cell_of_row wr _ 1 _ _ (0, 0) HMB.out).trans (show _ = some (Value.int .u16 c.g) from rfl)
      have v2 := (cell_of_row wr _ 2 _ _ (0, 0) HMB.out).trans (show _ = some (Value.int .u16 c.b) from rfl)
      have v3 := (cell_of_row wr _ 3 _ _ (0, 0) HMB.out).trans (show _ = some (Value.int .u16 c.a) from rfl)
      go_wp2_with (refine wpList_store_row rfl 38 _ _ rfl zb #[.int .u16 c.r, .int .u16 c.g, .int .u16 c.b, .int .u16 c.a] rfl rfl 38 _ HZ.out (colSize4 _ _ _ _) rfl (colOne _ _ _ _) ?_)
      refine bodyPost_ret (results_cell (p := 4) (ty := 38) rfl _ _ zb 38 _ (0, 0) _ rfl (setRow_heap _ _ _ _ _ _ HZ.out) Tryz.underlying38 rfl (colSize4 _ _ _ _)) rfl ?_
      exact ⟨c, HCM.out, rfl, below_setRow HBW.out (by have := HZB.out; omega) _⟩
def AxisPost (w : World) (e : Ending) (w' : World) : Prop := ∃ k : Nat, k < 3 ∧ e = .returned (.int .i64 (k : Nat)) ∧ Below w.heap.size w w'
set_option maxRecDepth 100000 in
set_option maxHeartbeats 1600000 in
theorem longest_any (b off n cap : Nat) (t : List C4) (w : World) (h : RdC w (some ⟨b, off, none⟩) t) (hn : t.length = n) (hn0 : 1 ≤ n) (hn6 : n ≤ 1099511627776) (hcap : n ≤ cap) (hok : okAll t) :
    Calls Tryz.prog 54 #[.slice (some ⟨b, off, none⟩) n cap] w (AxisPost w) := by
  have HN := Lib.hid hn
  have HOK := Lib.hid hok
  have HR := Lib.hid h
  clear h hn hok
  go_enter Tryz.func54, Tryz.ntmps54
  go_wp2_with fail
  go_loopg [3, 4, 8] 3 (fun gk s3 s4 s8 wr => ∃ (k at' : Nat) (best : Int), k ≤ 3 ∧ gk = 3 - k ∧ s3 = .int .i64 best ∧ s4 = .int .i64 (at' : Nat) ∧ s8 = .int .i64 (k : Nat) ∧ at' < 3 ∧ Below w.heap.size w wr)
  case atStart => exact ⟨0, 0, -1, by omega, rfl, rfl, by go_num, by go_num, by omega, Below.refl _ _⟩
  case round =>
    obtain ⟨k, at', best, hk, hgk, rfl, rfl, rfl, hat, hbw⟩ := hrel
    have Hg := Lib.hid hgk
    have HBW := Lib.hid hbw
    clear hgk hbw
    by_cases hlt : k < 3
    · have hk3 : (k : Int) < 3 := by omega
      go_upto_region 6 with (fail)
      have hnw := heap_alloc_new wr (.cells #[.int .i64 (k : Nat)] 3)
      have hB1 : Below wr.heap.size wr (wr.alloc (.cells #[.int .i64 (k : Nat)] 3)) := (Below.refl _ _).alloc (Nat.le_refl _) _
      obtain ⟨kb, hkb⟩ : ∃ b, wr.heap.size = b := ⟨_, rfl⟩
      have HBW1 := Lib.hid (HBW.out.trans (hB1.mono HBW.out.size))
      rw [hkb] at hnw ⊢
      generalize wr.alloc (.cells #[.int .i64 (k : Nat)] 3) = w1 at *
      have kk := (cell_of_row w1 _ 0 _ _ (0, 0) hnw).trans (show _ = some (Value.int .i64 (k : Nat)) from rfl)
      have HKK := Lib.hid kk
      clear hnw hB1 hkb
      have CMx : Hid (∀ u, Below w1.heap.size w1 u → Calls Tryz.prog 84 #[.slice (some ⟨b, off, none⟩) n cap, .func (.func 83) #[] #[.pointer (some ⟨kb, 0, none⟩)]] u (PickPost t u)) :=
        Lib.hid fun u hu => max_any b off n cap kb k t u ((HR.out.below HBW1.out).below hu) HN.out hn0 hn6 hcap HOK.out hlt (keep_cell hu HKK.out)
      have CMn : Hid (∀ u, Below w1.heap.size w1 u → Calls Tryz.prog 85 #[.slice (some ⟨b, off, none⟩) n cap, .func (.func 83) #[] #[.pointer (some ⟨kb, 0, none⟩)]] u (PickPost t u)) :=
        Lib.hid fun u hu => min_any b off n cap kb k t u ((HR.out.below HBW1.out).below hu) HN.out hn0 hn6 hcap HOK.out hlt (keep_cell hu HKK.out)
      refine wp_region_any (by kernel_rfl) ?_
      refine wpAny_laid_tails (D := fun i => ([12, 13, 14, 15, 16, 17, 18, 19, 20, 21, 22] : List Nat).getD i 0)
        (R := fun rj v w' => match rj with
          | 0 => v = .slice (some ⟨b, off, none⟩) n cap
          | 1 => v = .func (.func 83) #[] #[.pointer (some ⟨kb, 0, none⟩)]
          | 2 => ∃ c, c ∈ t ∧ v = .agg #[.int .u16 c.r, .int .u16 c.g, .int .u16 c.b, .int .u16 c.a]
          | 3 => v = .int .i64 (k : Nat)
          | 4 => ∃ x : Int, v = .int .i64 x
          | 5 => v = .slice (some ⟨b, off, none⟩) n cap
          | 6 => v = .func (.func 83) #[] #[.pointer (some ⟨kb, 0, none⟩)]
          | 7 => ∃ c, c ∈ t ∧ v = .agg #[.int .u16 c.r, .int .u16 c.g, .int .u16 c.b, .int .u16 c.a]
          | 8 => v = .int .i64 (k : Nat)
          | 9 => ∃ x : Int, v = .int .i64 x
          | 10 => ∃ x : Int, v = .int .i64 x
          | _ => True)
        (S := fun a' w' => (a'.tmps[0]? = some (.slice (some ⟨b, off, none⟩) n cap) ∧ a'.tmps[5]? = some (.pointer (some ⟨kb, 0, none⟩)) ∧ a'.tmps[6]? = some (.func (.func 83) #[] #[.pointer (some ⟨kb, 0, none⟩)])) ∧ Below w1.heap.size w1 w')
        11 (by decide) (by kernel_rfl) (by decide +kernel) (by decide +kernel) (by decide +kernel) (by decide +kernel) (by kernel_rfl) ?_ ?_ ?_ ?_
      · intro i v u u' h hb
        match i, h with
        | 0, h => exact h
        | 1, h => exact h
        | 2, h => exact h
        | 3, h => exact h
        | 4, h => exact h
        | 5, h => exact h
        | 6, h => exact h
        | 7, h => exact h
        | 8, h => exact h
        | 9, h => exact h
        | 10, h => exact h
        | i + 11, _ => trivial
      · intro a' u hb _ hold
        exact ⟨⟨hold 0 (by decide), hold 5 (by decide), hold 6 (by decide)⟩, hb⟩
      · refine ⟨?_, ?_, ?_, ?_, ?_, ?_, ?_, ?_, ?_, ?_, ?_, trivial⟩
        · intro a' u hS hd
          clear hd
          have g0 := hS.1.1
          go_simp
          exact ⟨_, rfl, rfl, Below.refl _ _⟩
        · intro a' u hS hd
          clear hd
          have g0 := hS.1.2.2
          go_simp
          exact ⟨_, rfl, rfl, Below.refl _ _⟩
        · intro a' u hS hd
          obtain ⟨_, e0, rfl⟩ := hd 0 (by kernel_rfl)
          have f0 : a'.tmps[12]? = some _ := e0
          clear e0
          obtain ⟨_, e1, rfl⟩ := hd 1 (by kernel_rfl)
          have f1 : a'.tmps[13]? = some _ := e1
          clear e1
          clear hd
          go_simp
          refine (CMx.out u hS.2).mono ?_
          rintro e u' ⟨c, hc, rfl, hb⟩
          exact ⟨_, rfl, ⟨c, hc, rfl⟩, hb⟩
        · intro a' u hS hd
          clear hd
          have g0 := hS.1.2.1
          have x0 := keep_cell hS.2 kk
          go_simp
          exact ⟨_, rfl, rfl, Below.refl _ _⟩
        · intro a' u hS hd
          obtain ⟨_, e0, c, hc, rfl⟩ := hd 2 (by kernel_rfl)
          obtain ⟨_, e1, rfl⟩ := hd 3 (by kernel_rfl)
          have f0 : a'.tmps[14]? = some _ := e0
          have f1 : a'.tmps[15]? = some _ := e1
          clear hd e0 e1
          go_simp
          refine (axis_any c (HOK.out c hc) k hlt u).mono ?_
          rintro e u' ⟨rfl, hb⟩
          exact ⟨_, rfl, ⟨_, rfl⟩, hb⟩
        · intro a' u hS hd
          clear hd
          have g0 := hS.1.1
          go_simp
          exact ⟨_, rfl, rfl, Below.refl _ _⟩
        · intro a' u hS hd
          clear hd
          have g0 := hS.1.2.2
          go_simp
          exact ⟨_, rfl, rfl, Below.refl _ _⟩
        · intro a' u hS hd
          obtain ⟨_, e0, rfl⟩ := hd 5 (by kernel_rfl)
          have f0 : a'.tmps[17]? = some _ := e0
          clear e0
          obtain ⟨_, e1, rfl⟩ := hd 6 (by kernel_rfl)
          have f1 : a'.tmps[18]? = some _ := e1
          clear e1
          clear hd
          go_simp
          refine (CMn.out u hS.2).mono ?_
          rintro e u' ⟨c, hc, rfl, hb⟩
          exact ⟨_, rfl, ⟨c, hc, rfl⟩, hb⟩
        · intro a' u hS hd
          clear hd
          have g0 := hS.1.2.1
          have x0 := keep_cell hS.2 kk
          go_simp
          exact ⟨_, rfl, rfl, Below.refl _ _⟩
        · intro a' u hS hd
          obtain ⟨_, e0, c, hc, rfl⟩ := hd 7 (by kernel_rfl)
          obtain ⟨_, e1, rfl⟩ := hd 8 (by kernel_rfl)
          have f0 : a'.tmps[19]? = some _ := e0
          have f1 : a'.tmps[20]? = some _ := e1
          clear hd e0 e1
          go_simp
          refine (axis_any c (HOK.out c hc) k hlt u).mono ?_
          rintro e u' ⟨rfl, hb⟩
          exact ⟨_, rfl, ⟨_, rfl⟩, hb⟩
        · intro a' u hS hd
          obtain ⟨_, e0, x, rfl⟩ := hd 4 (by kernel_rfl)
          obtain ⟨_, e1, y, rfl⟩ := hd 9 (by kernel_rfl)
          have f0 : a'.tmps[16]? = some _ := e0
          have f1 : a'.tmps[21]? = some _ := e1
          clear hd e0 e1
          go_simp
          exact ⟨_, rfl, ⟨_, rfl⟩, Below.refl _ _⟩
      · intro a' u h
        obtain ⟨_, e22, z, rfl⟩ := h.new 10 (by decide) (by decide +kernel)
        replace e22 : a'.tmps[22]? = some (.int .i64 z) := e22
        have e0 : a'.tmps[0]? = some (.slice (some ⟨b, off, none⟩) n cap) := h.old 0 (by decide)
        have e1 : a'.tmps[1]? = some (undef) := h.old 1 (by decide)
        have e2 : a'.tmps[2]? = some (.int .i64 0) := h.old 2 (by decide)
        have e3 : a'.tmps[3]? = some (.int .i64 best) := h.old 3 (by decide)
        have e4 : a'.tmps[4]? = some (.int .i64 (at' : Nat)) := h.old 4 (by decide)
        have e5 : a'.tmps[5]? = some (.pointer (some ⟨kb, 0, none⟩)) := h.old 5 (by decide)
        have e6 : a'.tmps[6]? = some (.func (.func 83) #[] #[.pointer (some ⟨kb, 0, none⟩)]) := h.old 6 (by decide)
        have e8 : a'.tmps[8]? = some (.int .i64 (k : Nat)) := h.old 8 (by decide)
        have e29 : a'.tmps[29]? = some (undef) := h.old 29 (by decide)
        have hsz : a'.tmps.size = 30 := h.size
        have hdf : a'.defers = [] := h.defers
        have hbu := h.below
        clear h
        obtain ⟨tmps, defers⟩ := a'
        simp only at hsz hdf e0 e1 e2 e3 e4 e5 e6 e8 e29 e22
        subst hdf
        obtain ⟨ll⟩ := tmps
        match ll, hsz with
        | y0 :: y1 :: y2 :: y3 :: y4 :: y5 :: y6 :: y7 :: y8 :: y9 :: y10 :: y11 :: y12 :: y13 :: y14 :: y15 :: y16 :: y17 :: y18 :: y19 :: y20 :: y21 :: y22 :: y23 :: y24 :: y25 :: y26 :: y27 :: y28 :: y29 :: [], _ =>
          obtain rfl : y0 = .slice (some ⟨b, off, none⟩) n cap := by simpa using e0
          obtain rfl : y1 = undef := by simpa using e1
          obtain rfl : y2 = .int .i64 0 := by simpa using e2
          obtain rfl : y3 = .int .i64 best := by simpa using e3
          obtain rfl : y4 = .int .i64 (at' : Nat) := by simpa using e4
          obtain rfl : y5 = .pointer (some ⟨kb, 0, none⟩) := by simpa using e5
          obtain rfl : y6 = .func (.func 83) #[] #[.pointer (some ⟨kb, 0, none⟩)] := by simpa using e6
          obtain rfl : y8 = .int .i64 (k : Nat) := by simpa using e8
          obtain rfl : y29 = undef := by simpa using e29
          obtain rfl : y22 = .int .i64 z := by simpa using e22
          clear e0 e1 e2 e3 e4 e5 e6 e8 e29 e22
          have HBU := Lib.hid (HBW1.out.trans (hbu.mono HBW1.out.size))
          have kk2 := keep_cell hbu HKK.out
          clear hbu CMx CMn kk
          by_cases hgt : best < z
          · go_upto_region 8 with (fail)
            go_quiet (fail)
            go_wp2_with fail
            go_roundg (3 - (k + 1))
            case measure => have := Hg.out; omega
            case rel => exact ⟨k + 1, k, z, by omega, rfl, rfl, rfl, by go_num, hlt, below_drewN HBU.out _⟩
          · go_wp2_with fail
            go_roundg (3 - (k + 1))
            case measure => have := Hg.out; omega
            case rel => exact ⟨k + 1, at', best, by omega, rfl, rfl, rfl, by go_num, hat, HBU.out⟩
    · have hk3 : ¬ (k : Int) < 3 := by omega
      go_wp2_with fail
      go_ret
      exact ⟨at', hat, rfl, HBW.out⟩
end Go.Proofs.YtioeifbobhdccaaGreatDoor
