/- The works that take each sample by its own argument; what is made of both. -/
import Derived.Test.YtdemndjenlhahaaPt3
import Derived.Test.YtdemndjenlhahaaPtKind
namespace Go.Proofs.Ytdemndjenlhahaa
open Go.RowKit Go.Sort

def ThreeF (f : FuncId) (k : Nat) : Prop := ∀ (a : List Int) (i : Nat) (s : Int) (c : C4) (p : Option Addr) (n cap : Nat) (w : World), pm.okA k a → i < 3 → 0 ≤ s → s ≤ 65535 → c.ok → Sl .i64 w p n cap a →
  Calls Try.prog f #[.slice p n cap, .int .i64 i, .int .i64 s, .agg #[.int .u16 c.r, .int .u16 c.g, .int .u16 c.b, .int .u16 c.a]] w fun e w' => e = .returned (.int .i64 (pm.raw3 k a i s c)) ∧ Below w.heap.size w w'

theorem sep_row0 (w : World) : (Instr.index 89 (.agg #[.int .i64 25756, .int .i64 50397, .int .i64 12386, .int .i64 22872, .int .i64 44958, .int .i64 11010, .int .i64 17826, .int .i64 34996, .int .i64 8585]) (.int .i64 0)).run Try.prog w = .ok (.agg #[.int .i64 25756, .int .i64 50397, .int .i64 12386]) w := by kernel_rfl
theorem sep_row1 (w : World) : (Instr.index 89 (.agg #[.int .i64 25756, .int .i64 50397, .int .i64 12386, .int .i64 22872, .int .i64 44958, .int .i64 11010, .int .i64 17826, .int .i64 34996, .int .i64 8585]) (.int .i64 1)).run Try.prog w = .ok (.agg #[.int .i64 22872, .int .i64 44958, .int .i64 11010]) w := by kernel_rfl
theorem sep_row2 (w : World) : (Instr.index 89 (.agg #[.int .i64 25756, .int .i64 50397, .int .i64 12386, .int .i64 22872, .int .i64 44958, .int .i64 11010, .int .i64 17826, .int .i64 34996, .int .i64 8585]) (.int .i64 2)).run Try.prog w = .ok (.agg #[.int .i64 17826, .int .i64 34996, .int .i64 8585]) w := by kernel_rfl

theorem mul_bdI {x y A B : Int} (hx : -A ≤ x ∧ x ≤ A) (hy : 0 ≤ y ∧ y ≤ B) : -(A * B) ≤ x * y ∧ x * y ≤ A * B := by
  rcases Int.le_total 0 x with h | h
  · have h1 := pm.mul_range (x := x) (y := y) (A := A) (B := B) ⟨h, hx.2⟩ hy
    omega
  · have h1 := pm.mul_range (x := -x) (y := y) (A := A) (B := B) ⟨by omega, by omega⟩ hy
    rw [Int.neg_mul] at h1
    omega

set_option maxRecDepth 100000 in
theorem three12 : ThreeF 52 12 := by
  intro a i s c p n cap w h hi h1 h2 hc hA
  obtain ⟨⟨r0, r1⟩, ⟨g0, g1⟩, ⟨b0, b1⟩, _⟩ := hc
  clear hA h
  obtain ⟨r, g, b, al⟩ := c
  simp only at r0 r1 g0 g1 b0 b1
  rcases (show i = 0 ∨ i = 1 ∨ i = 2 by omega) with rfl | rfl | rfl
  · show Calls _ _ #[_, .int .i64 0, _, _] _ _
    have HV : Hid (pm.raw3 12 a 0 s ⟨r, g, b, al⟩ = (25756 * r + 50397 * g + 12386 * b) / 65536) := Lib.hid rfl
    rw [HV.out]
    have X := sep_row0
    go_enter Try.func52, Try.ntmps52
    go_wp2_with fail
    go_ret
    exact ⟨rfl, ((Below.refl _ _).alloc (Nat.le_refl _) _).alloc (by simp) _⟩
  · show Calls _ _ #[_, .int .i64 1, _, _] _ _
    have HV : Hid (pm.raw3 12 a 1 s ⟨r, g, b, al⟩ = (22872 * r + 44958 * g + 11010 * b) / 65536) := Lib.hid rfl
    rw [HV.out]
    have X := sep_row1
    go_enter Try.func52, Try.ntmps52
    go_wp2_with fail
    go_ret
    exact ⟨rfl, ((Below.refl _ _).alloc (Nat.le_refl _) _).alloc (by simp) _⟩
  · show Calls _ _ #[_, .int .i64 2, _, _] _ _
    have HV : Hid (pm.raw3 12 a 2 s ⟨r, g, b, al⟩ = (17826 * r + 34996 * g + 8585 * b) / 65536) := Lib.hid rfl
    rw [HV.out]
    have X := sep_row2
    go_enter Try.func52, Try.ntmps52
    go_wp2_with fail
    go_ret
    exact ⟨rfl, ((Below.refl _ _).alloc (Nat.le_refl _) _).alloc (by simp) _⟩

set_option maxRecDepth 100000 in
theorem three13 : ThreeF 53 13 := by
  intro a i s c p n cap w h hi h1 h2 hc hA
  obtain ⟨x, y, z, t, rfl, hx, hy, hz, ht⟩ := fit4 (show pm.fitL a [(0, 65535), (0, 65535), (0, 65535), (0, 256)] from h.1)
  obtain ⟨b, off, rfl, rfl, c0, c1, c2, c3⟩ := args4 hA
  simp only at hx hy hz ht
  clear hA h hc
  obtain ⟨r, g, bl, al⟩ := c
  have hB : Below w.heap.size w (w.alloc (.cells #[.int .u16 r, .int .u16 g, .int .u16 bl, .int .u16 al] 33)) := (Below.refl _ _).alloc (Nat.le_refl _) _
  have HB := Lib.hid hB
  have k0 := keep_cell hB c0
  have k1 := keep_cell hB c1
  have k2 := keep_cell hB c2
  have k3 := keep_cell hB c3
  clear hB c0 c1 c2 c3
  rcases (show i = 0 ∨ i = 1 ∨ i = 2 by omega) with rfl | rfl | rfl
  · show Calls _ _ #[_, .int .i64 0, _, _] _ _
    have HV : Hid (pm.raw3 13 [x, y, z, t] 0 s ⟨r, g, bl, al⟩ = s + (x - s) * t / 256) := Lib.hid rfl
    rw [HV.out]
    go_enter Try.func53, Try.ntmps53
    go_wp2_with fail
    have hm := mul_bdI (x := x - s) (y := t) (A := 65535) (B := 256) (by omega) (by omega)
    have W1 : IntKind.i64.wrap (x - s) = x - s := IntWalk.i64_in _ (by omega)
    have W2 : IntKind.i64.wrap ((x - s) * t) = (x - s) * t := IntWalk.i64_in _ (by omega)
    have W3 : IntKind.i64.wrap (s + (x - s) * t / 256) = s + (x - s) * t / 256 := IntWalk.i64_in _ (by omega)
    have CN : Hid (∀ w d os, Calls Try.prog 39 #[.int .i64 ((x - s) * t), .int .i64 256] (grow (redrawn w d) os) fun e w'' => e = .returned (.int .i64 ((x - s) * t / 256)) ∧ ∃ p : Regrown, w'' = grow (redrawn w p.d) p.os) :=
      Lib.hid (fun w d os => Calls.regrown_of (below_of (over_any _ _ _ (by omega) (by omega) (by omega) (by omega))))
    replace k0 := cell_regrown k0
    replace k1 := cell_regrown k1
    replace k2 := cell_regrown k2
    replace k3 := cell_regrown k3
    refine wp_region_quiet_below (by kernel_rfl) (by kernel_rfl) ?_
    repeat (go_big_quiet_step (exact CN.out _ _ _))
    refine wpQuiet_nil ?_
    intro _ hw'
    obtain ⟨⟨dq, osq⟩, hw''⟩ := hw'
    subst hw''
    have hb := HB.out.trans ((below_regrown _ dq osq).mono HB.out.size)
    clear k0 k1 k2 k3 W1 W2 W3
    generalize grow (redrawn _ dq) osq = w4 at *
    go_wp2_with fail
    go_ret
    exact ⟨rfl, hb⟩
  · show Calls _ _ #[_, .int .i64 1, _, _] _ _
    have HV : Hid (pm.raw3 13 [x, y, z, t] 1 s ⟨r, g, bl, al⟩ = s + (y - s) * t / 256) := Lib.hid rfl
    rw [HV.out]
    go_enter Try.func53, Try.ntmps53
    go_wp2_with fail
    have hm := mul_bdI (x := y - s) (y := t) (A := 65535) (B := 256) (by omega) (by omega)
    have W1 : IntKind.i64.wrap (y - s) = y - s := IntWalk.i64_in _ (by omega)
    have W2 : IntKind.i64.wrap ((y - s) * t) = (y - s) * t := IntWalk.i64_in _ (by omega)
    have W3 : IntKind.i64.wrap (s + (y - s) * t / 256) = s + (y - s) * t / 256 := IntWalk.i64_in _ (by omega)
    have CN : Hid (∀ w d os, Calls Try.prog 39 #[.int .i64 ((y - s) * t), .int .i64 256] (grow (redrawn w d) os) fun e w'' => e = .returned (.int .i64 ((y - s) * t / 256)) ∧ ∃ p : Regrown, w'' = grow (redrawn w p.d) p.os) :=
      Lib.hid (fun w d os => Calls.regrown_of (below_of (over_any _ _ _ (by omega) (by omega) (by omega) (by omega))))
    replace k0 := cell_regrown k0
    replace k1 := cell_regrown k1
    replace k2 := cell_regrown k2
    replace k3 := cell_regrown k3
    refine wp_region_quiet_below (by kernel_rfl) (by kernel_rfl) ?_
    repeat (go_big_quiet_step (exact CN.out _ _ _))
    refine wpQuiet_nil ?_
    intro _ hw'
    obtain ⟨⟨dq, osq⟩, hw''⟩ := hw'
    subst hw''
    have hb := HB.out.trans ((below_regrown _ dq osq).mono HB.out.size)
    clear k0 k1 k2 k3 W1 W2 W3
    generalize grow (redrawn _ dq) osq = w4 at *
    go_wp2_with fail
    go_ret
    exact ⟨rfl, hb⟩
  · show Calls _ _ #[_, .int .i64 2, _, _] _ _
    have HV : Hid (pm.raw3 13 [x, y, z, t] 2 s ⟨r, g, bl, al⟩ = s + (z - s) * t / 256) := Lib.hid rfl
    rw [HV.out]
    go_enter Try.func53, Try.ntmps53
    go_wp2_with fail
    have hm := mul_bdI (x := z - s) (y := t) (A := 65535) (B := 256) (by omega) (by omega)
    have W1 : IntKind.i64.wrap (z - s) = z - s := IntWalk.i64_in _ (by omega)
    have W2 : IntKind.i64.wrap ((z - s) * t) = (z - s) * t := IntWalk.i64_in _ (by omega)
    have W3 : IntKind.i64.wrap (s + (z - s) * t / 256) = s + (z - s) * t / 256 := IntWalk.i64_in _ (by omega)
    have CN : Hid (∀ w d os, Calls Try.prog 39 #[.int .i64 ((z - s) * t), .int .i64 256] (grow (redrawn w d) os) fun e w'' => e = .returned (.int .i64 ((z - s) * t / 256)) ∧ ∃ p : Regrown, w'' = grow (redrawn w p.d) p.os) :=
      Lib.hid (fun w d os => Calls.regrown_of (below_of (over_any _ _ _ (by omega) (by omega) (by omega) (by omega))))
    replace k0 := cell_regrown k0
    replace k1 := cell_regrown k1
    replace k2 := cell_regrown k2
    replace k3 := cell_regrown k3
    refine wp_region_quiet_below (by kernel_rfl) (by kernel_rfl) ?_
    repeat (go_big_quiet_step (exact CN.out _ _ _))
    refine wpQuiet_nil ?_
    intro _ hw'
    obtain ⟨⟨dq, osq⟩, hw''⟩ := hw'
    subst hw''
    have hb := HB.out.trans ((below_regrown _ dq osq).mono HB.out.size)
    clear k0 k1 k2 k3 W1 W2 W3
    generalize grow (redrawn _ dq) osq = w4 at *
    go_wp2_with fail
    go_ret
    exact ⟨rfl, hb⟩

set_option maxRecDepth 100000 in
theorem three16 : ThreeF 57 16 := by
  intro a i s c p n cap w h hi h1 h2 hc hA
  obtain ⟨x, y, z, rfl, hx, hy, hz⟩ := fit3 (show pm.fitL a [(0, 65535), (0, 65535), (0, 65535)] from h.1)
  obtain ⟨b, off, rfl, rfl, c0, c1, c2⟩ := args3 hA
  obtain ⟨_, _, _, ⟨a0, a1⟩⟩ := hc
  simp only at hx hy hz
  clear hA h
  obtain ⟨r, g, bl, al⟩ := c
  simp only at a0 a1
  have hB : Below w.heap.size w (w.alloc (.cells #[.int .u16 r, .int .u16 g, .int .u16 bl, .int .u16 al] 33)) := (Below.refl _ _).alloc (Nat.le_refl _) _
  have HB := Lib.hid hB
  have k0 := keep_cell hB c0
  have k1 := keep_cell hB c1
  have k2 := keep_cell hB c2
  have k3 : (w.alloc (.cells #[.int .u16 r, .int .u16 g, .int .u16 bl, .int .u16 al] 33)).cell? ⟨w.heap.size, 3, none⟩ = some (.int .u16 al) := by rw [World.cell?_alloc_at _ _ _ _ rfl]; rfl
  clear hB c0 c1 c2
  rcases (show i = 0 ∨ i = 1 ∨ i = 2 by omega) with rfl | rfl | rfl
  · show Calls _ _ #[_, .int .i64 0, _, _] _ _
    have HV : Hid (pm.raw3 16 [x, y, z] 0 s ⟨r, g, bl, al⟩ = (s * al + x * (65535 - al) + 32767) / 65535) := Lib.hid rfl
    rw [HV.out]
    go_enter Try.func57, Try.ntmps57
    go_wp2_with fail
    have m1 := pm.mul_range (x := s) (y := al) (A := 65535) (B := 65535) (by omega) (by omega)
    have m2 := pm.mul_range (x := x) (y := 65535 - al) (A := 65535) (B := 65535) (by omega) (by omega)
    have W1 : IntKind.i64.wrap (65535 - al) = 65535 - al := IntWalk.i64_in _ (by omega)
    have W2 : IntKind.i64.wrap (s * al) = s * al := IntWalk.i64_in _ (by omega)
    have W3 : IntKind.i64.wrap (x * (65535 - al)) = x * (65535 - al) := IntWalk.i64_in _ (by omega)
    have W4 : IntKind.i64.wrap (s * al + x * (65535 - al)) = s * al + x * (65535 - al) := IntWalk.i64_in _ (by omega)
    have W5 : IntKind.i64.wrap (s * al + x * (65535 - al) + 32767) = s * al + x * (65535 - al) + 32767 := IntWalk.i64_in _ (by omega)
    have W6 : (s * al + x * (65535 - al) + 32767).tdiv 65535 = (s * al + x * (65535 - al) + 32767) / 65535 := Int.tdiv_eq_ediv_of_nonneg (by omega)
    have W7 : IntKind.i64.wrap ((s * al + x * (65535 - al) + 32767) / 65535) = (s * al + x * (65535 - al) + 32767) / 65535 := IntWalk.i64_in _ (by omega)
    have W8 : IntKind.i64.wrap al = al := IntWalk.i64_in _ (by omega)
    replace k0 := cell_regrown k0
    replace k1 := cell_regrown k1
    replace k2 := cell_regrown k2
    replace k3 := cell_regrown k3
    refine wp_region_quiet_below (by kernel_rfl) (by kernel_rfl) ?_
    repeat (go_big_quiet_step (fail))
    refine wpQuiet_nil ?_
    intro _ hw'
    obtain ⟨⟨dq, osq⟩, hw''⟩ := hw'
    subst hw''
    have hb := HB.out.trans ((below_regrown _ dq osq).mono HB.out.size)
    clear k0 k1 k2 k3 W1 W2 W3 W4 W5 W6 W7 W8
    generalize grow (redrawn _ dq) osq = w4 at *
    go_wp2_with fail
    go_ret
    exact ⟨rfl, hb⟩
  · show Calls _ _ #[_, .int .i64 1, _, _] _ _
    have HV : Hid (pm.raw3 16 [x, y, z] 1 s ⟨r, g, bl, al⟩ = (s * al + y * (65535 - al) + 32767) / 65535) := Lib.hid rfl
    rw [HV.out]
    go_enter Try.func57, Try.ntmps57
    go_wp2_with fail
    have m1 := pm.mul_range (x := s) (y := al) (A := 65535) (B := 65535) (by omega) (by omega)
    have m2 := pm.mul_range (x := y) (y := 65535 - al) (A := 65535) (B := 65535) (by omega) (by omega)
    have W1 : IntKind.i64.wrap (65535 - al) = 65535 - al := IntWalk.i64_in _ (by omega)
    have W2 : IntKind.i64.wrap (s * al) = s * al := IntWalk.i64_in _ (by omega)
    have W3 : IntKind.i64.wrap (y * (65535 - al)) = y * (65535 - al) := IntWalk.i64_in _ (by omega)
    have W4 : IntKind.i64.wrap (s * al + y * (65535 - al)) = s * al + y * (65535 - al) := IntWalk.i64_in _ (by omega)
    have W5 : IntKind.i64.wrap (s * al + y * (65535 - al) + 32767) = s * al + y * (65535 - al) + 32767 := IntWalk.i64_in _ (by omega)
    have W6 : (s * al + y * (65535 - al) + 32767).tdiv 65535 = (s * al + y * (65535 - al) + 32767) / 65535 := Int.tdiv_eq_ediv_of_nonneg (by omega)
    have W7 : IntKind.i64.wrap ((s * al + y * (65535 - al) + 32767) / 65535) = (s * al + y * (65535 - al) + 32767) / 65535 := IntWalk.i64_in _ (by omega)
    have W8 : IntKind.i64.wrap al = al := IntWalk.i64_in _ (by omega)
    replace k0 := cell_regrown k0
    replace k1 := cell_regrown k1
    replace k2 := cell_regrown k2
    replace k3 := cell_regrown k3
    refine wp_region_quiet_below (by kernel_rfl) (by kernel_rfl) ?_
    repeat (go_big_quiet_step (fail))
    refine wpQuiet_nil ?_
    intro _ hw'
    obtain ⟨⟨dq, osq⟩, hw''⟩ := hw'
    subst hw''
    have hb := HB.out.trans ((below_regrown _ dq osq).mono HB.out.size)
    clear k0 k1 k2 k3 W1 W2 W3 W4 W5 W6 W7 W8
    generalize grow (redrawn _ dq) osq = w4 at *
    go_wp2_with fail
    go_ret
    exact ⟨rfl, hb⟩
  · show Calls _ _ #[_, .int .i64 2, _, _] _ _
    have HV : Hid (pm.raw3 16 [x, y, z] 2 s ⟨r, g, bl, al⟩ = (s * al + z * (65535 - al) + 32767) / 65535) := Lib.hid rfl
    rw [HV.out]
    go_enter Try.func57, Try.ntmps57
    go_wp2_with fail
    have m1 := pm.mul_range (x := s) (y := al) (A := 65535) (B := 65535) (by omega) (by omega)
    have m2 := pm.mul_range (x := z) (y := 65535 - al) (A := 65535) (B := 65535) (by omega) (by omega)
    have W1 : IntKind.i64.wrap (65535 - al) = 65535 - al := IntWalk.i64_in _ (by omega)
    have W2 : IntKind.i64.wrap (s * al) = s * al := IntWalk.i64_in _ (by omega)
    have W3 : IntKind.i64.wrap (z * (65535 - al)) = z * (65535 - al) := IntWalk.i64_in _ (by omega)
    have W4 : IntKind.i64.wrap (s * al + z * (65535 - al)) = s * al + z * (65535 - al) := IntWalk.i64_in _ (by omega)
    have W5 : IntKind.i64.wrap (s * al + z * (65535 - al) + 32767) = s * al + z * (65535 - al) + 32767 := IntWalk.i64_in _ (by omega)
    have W6 : (s * al + z * (65535 - al) + 32767).tdiv 65535 = (s * al + z * (65535 - al) + 32767) / 65535 := Int.tdiv_eq_ediv_of_nonneg (by omega)
    have W7 : IntKind.i64.wrap ((s * al + z * (65535 - al) + 32767) / 65535) = (s * al + z * (65535 - al) + 32767) / 65535 := IntWalk.i64_in _ (by omega)
    have W8 : IntKind.i64.wrap al = al := IntWalk.i64_in _ (by omega)
    replace k0 := cell_regrown k0
    replace k1 := cell_regrown k1
    replace k2 := cell_regrown k2
    replace k3 := cell_regrown k3
    refine wp_region_quiet_below (by kernel_rfl) (by kernel_rfl) ?_
    repeat (go_big_quiet_step (fail))
    refine wpQuiet_nil ?_
    intro _ hw'
    obtain ⟨⟨dq, osq⟩, hw''⟩ := hw'
    subst hw''
    have hb := HB.out.trans ((below_regrown _ dq osq).mono HB.out.size)
    clear k0 k1 k2 k3 W1 W2 W3 W4 W5 W6 W7 W8
    generalize grow (redrawn _ dq) osq = w4 at *
    go_wp2_with fail
    go_ret
    exact ⟨rfl, hb⟩
end Go.Proofs.Ytdemndjenlhahaa
