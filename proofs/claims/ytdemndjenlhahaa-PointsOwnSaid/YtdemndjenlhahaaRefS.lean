/- The reference's samples, each walked. -/
import Derived.Test.YtdemndjenlhahaaPt12
import Derived.Test.YtdemndjenlhahaaPtTones
import Derived.Test.YtdemndjenlhahaaPt3
namespace Go.Proofs.Ytdemndjenlhahaa
open Go.RowKit Go.Sort

theorem refclamp_any (v : Int) (w : World) :
    Calls Try.prog 69 #[.int .i64 v] w fun e w' => e = .returned (.int .i64 (tm.clampTo v 65535)) ∧ w = w' := by
  have h := pm.clamp_range v
  go_enter Try.func69, Try.ntmps69
  go_wp2_with fail
  refine (refClamp_any v 65535 _).mono ?_
  rintro e w' ⟨rfl, rfl⟩
  go_wp2_with fail
  go_ret
  exact ⟨rfl, rfl⟩
theorem reffar_any (x y : Int) (w : World) (hx : -65535 ≤ x ∧ x ≤ 65535) (hy : -65535 ≤ y ∧ y ≤ 65535) :
    Calls Try.prog 71 #[.int .i64 x, .int .i64 y] w fun e w' => e = .returned (.int .i64 (pm.dist x y)) ∧ w = w' := by
  by_cases h : y < x
  · have HV : Hid (pm.dist x y = x - y) := Lib.hid (if_pos h)
    rw [HV.out]
    go_enter Try.func71, Try.ntmps71
    go_wp2_with fail
    go_ret
    exact ⟨rfl, rfl⟩
  · have HV : Hid (pm.dist x y = y - x) := Lib.hid (if_neg h)
    rw [HV.out]
    go_enter Try.func71, Try.ntmps71
    go_wp2_with fail
    go_ret
    exact ⟨rfl, rfl⟩
set_option maxRecDepth 100000 in
theorem refroot_any (v : Int) (w : World) (h0 : 0 ≤ v) (h1 : v < 4294967296) :
    Calls Try.prog 75 #[.int .i64 v] w fun e w' => e = .returned (.int .i64 (pm.root v)) ∧ w = w' := by
  go_enter Try.func75, Try.ntmps75
  go_wp2_with fail
  go_loop [3, 4, 5] (fun a b _ => ∃ lo hi : Nat, a = .int .i64 lo ∧ b = .int .i64 hi ∧ lo < hi ∧ hi ≤ 65536 ∧ (lo : Int) * lo ≤ v ∧ v < (hi : Int) * hi) (fun a b _ => (intOf b - intOf a).toNat)
  case atStart => exact ⟨0, 65536, rfl, rfl, by omega, by omega, by simpa using h0, by simpa using h1⟩
  case round =>
    obtain ⟨lo, hi, rfl, rfl, hlt, hhi, hl, hh⟩ := hrel
    by_cases hd : lo + 1 < hi
    · obtain ⟨mid, hm⟩ : ∃ mid : Nat, mid = (lo + hi) / 2 := ⟨_, rfl⟩
      have hm1 : lo < mid := by omega
      have hm2 : mid < hi := by omega
      have hmi : ((lo : Int) + (hi : Int)) / 2 = (mid : Int) := by omega
      have hq := pm.mul_range (x := (mid : Int)) (y := (mid : Int)) (A := 65536) (B := 65536) (by omega) (by omega)
      have HL := Lib.hid hl
      have HH := Lib.hid hh
      clear hm hl hh
      by_cases hc : (mid : Int) * (mid : Int) ≤ v
      · have HC := Lib.hid hc
        go_wp2_with fail
        go_round
        case rel => exact ⟨mid, hi, by rw [hmi], rfl, hm2, hhi, HC.out, HH.out⟩
        case measure => simp [intOf]; omega
      · have HC := Lib.hid hc
        go_wp2_with fail
        go_round
        case rel => exact ⟨lo, mid, rfl, by rw [hmi], hm1, by omega, HL.out, by have := HC.out; omega⟩
        case measure => simp [intOf]; omega
    · obtain rfl : hi = lo + 1 := by omega
      have HV : Hid ((lo : Int) = pm.root v) := Lib.hid (pm.root_eq h0 h1 (by omega) hl (by simpa using hh))
      clear hl hh
      go_wp2_with fail
      go_ret
      exact ⟨by rw [← HV.out]; rfl, rfl⟩
theorem refRound_any (s m : Int) (w : World) (hs : 0 ≤ s ∧ s ≤ 65535) :
    Calls Try.prog 74 #[.int .u16 s, .int .i64 m] w fun e w' => e = .returned (.int .u16 (tm.upV (tm.downV s m) m)) ∧ w = w' := by
  go_enter Try.func74, Try.ntmps74
  go_wp2_with fail
  refine (refDown_any s m _ hs).mono ?_
  rintro e w' ⟨rfl, rfl⟩
  go_wp2_with fail
  refine (refUp_any (tm.downV s m) m _).mono ?_
  rintro e w' ⟨rfl, rfl⟩
  go_wp2_with fail
  go_ret
  exact ⟨rfl, rfl⟩

def SampleAt (k : Nat) (op : ByteArray) : Prop := ∀ (a : List Int) (s : Int) (p : Option Addr) (n cap : Nat) (w : World), pm.okA k a → 0 ≤ s → s ≤ 65535 → Sl .i64 w p n cap a →
  Calls Try.prog 72 #[.string op, .slice p n cap, .int .i64 s] w fun e w' => e = .returned (.int .i64 (pm.smp k a s)) ∧ Below w.heap.size w w'

set_option maxRecDepth 100000 in
theorem sample0_any (a : List Int) (s : Int) (p : Option Addr) (n cap : Nat) (w : World) (h1 : 0 ≤ s) (h2 : s ≤ 65535) :
    Calls Try.prog 72 #[.string ⟨#[105, 110, 118, 101, 114, 116]⟩, .slice p n cap, .int .i64 s] w fun e w' => e = .returned (.int .i64 (pm.smp 0 a s)) ∧ Below w.heap.size w w' := by
  have HV : Hid (pm.smp 0 a s = 65535 - s) := Lib.hid (pm.clamp_id (by show 0 ≤ 65535 - s ∧ 65535 - s ≤ 65535; omega))
  rw [HV.out]
  go_enter Try.func72, Try.ntmps72
  go_wp2_with fail
  go_ret
  exact ⟨rfl, Below.refl _ _⟩
theorem sample0 : SampleAt 0 ⟨#[105, 110, 118, 101, 114, 116]⟩ := fun a s p n cap w _ h1 h2 _ => sample0_any a s p n cap w h1 h2
set_option maxRecDepth 100000 in
set_option maxHeartbeats 1600000 in
theorem sample3 : SampleAt 3 ⟨#[108, 101, 118, 101, 108, 115]⟩ := by
  intro a s p n cap w h h1 h2 hA
  obtain ⟨x, y, rfl, hx, hy⟩ := fit2 (show pm.fitL a [(0, 65535), (0, 65535)] from h.1)
  have hxy : x < y := by have := h.2.1; simp [pm.arg] at this; exact this
  obtain ⟨b, off, rfl, rfl, c0, c1⟩ := args2 hA
  have HV : Hid (pm.smp 3 [x, y] s = tm.clampTo ((s - x) * 65535 / (y - x)) 65535) := Lib.hid rfl
  have hcl := pm.clamp_range ((s - x) * 65535 / (y - x))
  rw [HV.out]
  clear hA h
  go_enter Try.func72, Try.ntmps72
  go_wp2_with fail
  have W1 : IntKind.i64.wrap (s - x) = s - x := IntWalk.i64_in _ (by omega)
  have W2 : IntKind.i64.wrap ((s - x) * 65535) = (s - x) * 65535 := IntWalk.i64_in _ (by omega)
  have W3 : IntKind.i64.wrap (y - x) = y - x := IntWalk.i64_in _ (by omega)
  have CN : Hid (∀ d os, Calls Try.prog 70 #[.int .i64 ((s - x) * 65535), .int .i64 (y - x)] (grow (redrawn w d) os) fun e w'' => e = .returned (.int .i64 ((s - x) * 65535 / (y - x))) ∧ ∃ p : Regrown, w'' = grow (redrawn w p.d) p.os) :=
    Lib.hid (fun d os => Calls.regrown_of (below_of (refOver_any _ _ _ (by omega) (by omega) (by omega) (by omega))))
  have CM : Hid (∀ d os, Calls Try.prog 69 #[.int .i64 ((s - x) * 65535 / (y - x))] (grow (redrawn w d) os) fun e w'' => e = .returned (.int .i64 (tm.clampTo ((s - x) * 65535 / (y - x)) 65535)) ∧ ∃ p : Regrown, w'' = grow (redrawn w p.d) p.os) :=
    Lib.hid (fun d os => Calls.regrown_of (below_of (refclamp_any _ _)))
  have k0 := cell_regrown c0
  have k1 := cell_regrown c1
  refine wp_region_quiet_below (by kernel_rfl) (by kernel_rfl) ?_
  repeat (go_big_quiet_step ((first | exact CN.out _ _ | exact CM.out _ _)))
  refine wpQuiet_nil ?_
  intro _ hw'
  obtain ⟨⟨dq, osq⟩, hw''⟩ := hw'
  subst hw''
  have hb := below_regrown w dq osq
  clear k0 k1 W1 W2 W3
  generalize grow (redrawn w dq) osq = w4 at *
  go_wp2
  go_ret
  exact ⟨rfl, hb⟩
set_option maxRecDepth 100000 in
set_option maxHeartbeats 1600000 in
theorem sample4 : SampleAt 4 ⟨#[115, 113, 117, 101, 101, 122, 101]⟩ := by
  intro a s p n cap w h h1 h2 hA
  obtain ⟨x, y, rfl, hx, hy⟩ := fit2 (show pm.fitL a [(0, 65535), (0, 65535)] from h.1)
  have hxy : x ≤ y := by have := h.2.2; simp [pm.arg] at this; exact this
  obtain ⟨b, off, rfl, rfl, c0, c1⟩ := args2 hA
  simp only at hx hy
  have hm := pm.mul_range (x := s) (y := y - x) (A := 65535) (B := y - x) (by omega) (by omega)
  have HV : Hid (pm.smp 4 [x, y] s = x + s * (y - x) / 65535) := Lib.hid (pm.clamp_id (by show 0 ≤ x + s * (y - x) / 65535 ∧ x + s * (y - x) / 65535 ≤ 65535; omega))
  rw [HV.out]
  clear hA h
  go_enter Try.func72, Try.ntmps72
  go_wp2_with fail
  have W1 : IntKind.i64.wrap (y - x) = y - x := IntWalk.i64_in _ (by omega)
  have W2 : IntKind.i64.wrap (s * (y - x)) = s * (y - x) := IntWalk.i64_in _ (by omega)
  have W3 : (s * (y - x)).tdiv 65535 = s * (y - x) / 65535 := Int.tdiv_eq_ediv_of_nonneg hm.1
  have W4 : IntKind.i64.wrap (s * (y - x) / 65535) = s * (y - x) / 65535 := IntWalk.i64_in _ (by omega)
  have W5 : IntKind.i64.wrap (x + s * (y - x) / 65535) = x + s * (y - x) / 65535 := IntWalk.i64_in _ (by omega)
  have k0 := cell_regrown c0
  have k1 := cell_regrown c1
  refine wp_region_quiet_below (by kernel_rfl) (by kernel_rfl) ?_
  repeat (go_big_quiet_step (fail))
  refine wpQuiet_nil ?_
  intro _ hw'
  obtain ⟨⟨dq, osq⟩, hw''⟩ := hw'
  subst hw''
  have hb := below_regrown w dq osq
  clear k0 k1 W1 W2 W3 W4 W5
  generalize grow (redrawn w dq) osq = w4 at *
  go_wp2
  go_ret
  exact ⟨rfl, hb⟩
set_option maxRecDepth 100000 in
set_option maxHeartbeats 1600000 in
theorem sample5 : SampleAt 5 ⟨#[97, 100, 100]⟩ := by
  intro a s p n cap w h h1 h2 hA
  obtain ⟨x, rfl, hx⟩ := fit1 (show pm.fitL a [(-65535, 65535)] from h.1)
  obtain ⟨b, off, rfl, rfl, c0⟩ := args1 hA
  have HV : Hid (pm.smp 5 [x] s = tm.clampTo (s + x) 65535) := Lib.hid rfl
  have hcl := pm.clamp_range (s + x)
  rw [HV.out]
  simp only at hx
  clear hA h
  go_enter Try.func72, Try.ntmps72
  go_wp2_with fail
  refine (refclamp_any (s + x) _).mono ?_
  rintro e w' ⟨rfl, rfl⟩
  go_wp2_with fail
  go_ret
  exact ⟨rfl, Below.refl _ _⟩
set_option maxRecDepth 100000 in
set_option maxHeartbeats 1600000 in
theorem sample6 : SampleAt 6 ⟨#[115, 99, 97, 108, 101]⟩ := by
  intro a s p n cap w h h1 h2 hA
  obtain ⟨x, y, rfl, hx, hy⟩ := fit2 (show pm.fitL a [(0, 65535), (1, 65535)] from h.1)
  obtain ⟨b, off, rfl, rfl, c0, c1⟩ := args2 hA
  have HV : Hid (pm.smp 6 [x, y] s = tm.clampTo (s * x / y) 65535) := Lib.hid rfl
  have hcl := pm.clamp_range (s * x / y)
  rw [HV.out]
  simp only at hx hy
  have hm := pm.mul_range (x := s) (y := x) (A := 65535) (B := 65535) (by omega) (by omega)
  clear hA h
  go_enter Try.func72, Try.ntmps72
  go_wp2_with fail
  have W2 : IntKind.i64.wrap (s * x) = s * x := IntWalk.i64_in _ (by omega)
  have W3 : (s * x).tdiv y = s * x / y := Int.tdiv_eq_ediv_of_nonneg hm.1
  have q0 : 0 ≤ s * x / y := Int.ediv_nonneg hm.1 (by omega)
  have q1 : s * x / y ≤ s * x := Int.ediv_le_self _ hm.1
  have W4 : IntKind.i64.wrap (s * x / y) = s * x / y := IntWalk.i64_in _ (by omega)
  have W5 : (y == 0) = false := by simp; omega
  have CM : Hid (∀ d os, Calls Try.prog 69 #[.int .i64 (s * x / y)] (grow (redrawn w d) os) fun e w'' => e = .returned (.int .i64 (tm.clampTo (s * x / y) 65535)) ∧ ∃ p : Regrown, w'' = grow (redrawn w p.d) p.os) :=
    Lib.hid (fun d os => Calls.regrown_of (below_of (refclamp_any _ _)))
  have k0 := cell_regrown c0
  have k1 := cell_regrown c1
  refine wp_region_quiet_below (by kernel_rfl) (by kernel_rfl) ?_
  repeat (go_big_quiet_step (exact CM.out _ _))
  refine wpQuiet_nil ?_
  intro _ hw'
  obtain ⟨⟨dq, osq⟩, hw''⟩ := hw'
  subst hw''
  have hb := below_regrown w dq osq
  clear k0 k1 W2 W3 W4 W5
  generalize grow (redrawn w dq) osq = w4 at *
  go_wp2
  go_ret
  exact ⟨rfl, hb⟩
set_option maxRecDepth 100000 in
set_option maxHeartbeats 1600000 in
theorem sample7 : SampleAt 7 ⟨#[112, 111, 115, 116, 101, 114, 105, 122, 101]⟩ := by
  intro a s p n cap w h h1 h2 hA
  obtain ⟨x, rfl, hx⟩ := fit1 (show pm.fitL a [(2, 256)] from h.1)
  obtain ⟨b, off, rfl, rfl, c0⟩ := args1 hA
  have hr := tm.upV_range (tm.downV s (x - 1)) (x - 1)
  have HV : Hid (pm.smp 7 [x] s = tm.upV (tm.downV s (x - 1)) (x - 1)) := Lib.hid (pm.clamp_id hr)
  rw [HV.out]
  simp only at hx
  clear hA h
  go_enter Try.func72, Try.ntmps72
  go_wp2_with fail
  refine (refRound_any s (x - 1) _ ⟨h1, h2⟩).mono ?_
  rintro e w' ⟨rfl, rfl⟩
  go_wp2_with fail
  go_ret
  exact ⟨rfl, Below.refl _ _⟩
set_option maxRecDepth 100000 in
set_option maxHeartbeats 1600000 in
theorem sample8 : SampleAt 8 ⟨#[115, 111, 108, 97, 114, 105, 122, 101]⟩ := by
  intro a s p n cap w h h1 h2 hA
  obtain ⟨x, rfl, hx⟩ := fit1 (show pm.fitL a [(0, 65535)] from h.1)
  obtain ⟨b, off, rfl, rfl, c0⟩ := args1 hA
  have HV : Hid (pm.smp 8 [x] s = if s < x then s else 65535 - s) := Lib.hid (pm.clamp_id (by show 0 ≤ (if s < x then s else 65535 - s) ∧ (if s < x then s else 65535 - s) ≤ 65535; split <;> omega))
  rw [HV.out]
  simp only at hx
  clear hA h
  by_cases hc : s < x
  · rw [if_pos hc]
    go_enter Try.func72, Try.ntmps72
    go_wp2_with fail
    go_ret
    exact ⟨rfl, Below.refl _ _⟩
  · rw [if_neg hc]
    go_enter Try.func72, Try.ntmps72
    go_wp2_with fail
    go_ret
    exact ⟨rfl, Below.refl _ _⟩
set_option maxRecDepth 100000 in
set_option maxHeartbeats 1600000 in
theorem sample9 : SampleAt 9 ⟨#[103, 97, 109, 109, 97]⟩ := by
  intro a s p n cap w h h1 h2 hA
  obtain ⟨x, rfl, hx⟩ := fit1 (show pm.fitL a [(1, 3)] from h.1)
  obtain ⟨b, off, rfl, rfl, c0⟩ := args1 hA
  have hm := pm.mul_range (x := s) (y := s) (A := 65535) (B := 65535) (by omega) (by omega)
  simp only at hx
  clear hA h
  rcases (show x = 1 ∨ x = 2 ∨ x = 3 by omega) with rfl | rfl | rfl
  · have HV : Hid (pm.smp 9 [1] s = s * s / 65535) := Lib.hid (pm.clamp_id (by show 0 ≤ s * s / 65535 ∧ s * s / 65535 ≤ 65535; omega))
    rw [HV.out]
    go_enter Try.func72, Try.ntmps72
    go_wp2_with fail
    go_ret
    exact ⟨rfl, Below.refl _ _⟩
  · have hr := pm.root_spec (s * 65535) (by omega) (by omega)
    have hr1 := hr.1
    have hr2 := hr.2.1
    have HV : Hid (pm.smp 9 [2] s = pm.root (s * 65535)) := Lib.hid (pm.clamp_id ⟨hr1, hr2⟩)
    rw [HV.out]
    clear hr
    go_enter Try.func72, Try.ntmps72
    go_wp2_with fail
    refine (refroot_any (s * 65535) _ (by omega) (by omega)).mono ?_
    rintro e w' ⟨rfl, rfl⟩
    go_wp2_with fail
    go_ret
    exact ⟨rfl, Below.refl _ _⟩
  · have hq := pm.mul_range (x := s * s / 65535) (y := s * s / 65535) (A := 65535) (B := 65535) (by omega) (by omega)
    have HV : Hid (pm.smp 9 [3] s = s * s / 65535 * (s * s / 65535) / 65535) := Lib.hid (pm.clamp_id (by show 0 ≤ s * s / 65535 * (s * s / 65535) / 65535 ∧ s * s / 65535 * (s * s / 65535) / 65535 ≤ 65535; omega))
    rw [HV.out]
    go_enter Try.func72, Try.ntmps72
    go_wp2_with fail
    go_ret
    exact ⟨rfl, Below.refl _ _⟩
end Go.Proofs.Ytdemndjenlhahaa
