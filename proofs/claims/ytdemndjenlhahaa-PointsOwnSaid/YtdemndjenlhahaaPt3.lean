/- The works that treat r, g and b alike, each walked. -/
import Derived.Test.YtdemndjenlhahaaPt2
import Derived.IntWalk
namespace Go.Proofs.Ytdemndjenlhahaa
open Go.RowKit Go.Sort

theorem args1 {w : World} {p : Option Addr} {n cap : Nat} {x : Int} (h : Sl .i64 w p n cap [x]) : ∃ b off, p = some ⟨b, off, none⟩ ∧ n = 1 ∧ w.cell? ⟨b, off, none⟩ = some (.int .i64 x) := by
  obtain ⟨b, off, rfl⟩ := h.rd.at (by simp)
  exact ⟨b, off, rfl, h.len.symm, by simpa using h.rd.cell 0 (by simp)⟩
theorem args2 {w : World} {p : Option Addr} {n cap : Nat} {x y : Int} (h : Sl .i64 w p n cap [x, y]) : ∃ b off, p = some ⟨b, off, none⟩ ∧ n = 2 ∧ w.cell? ⟨b, off, none⟩ = some (.int .i64 x) ∧ w.cell? ⟨b, off + 1, none⟩ = some (.int .i64 y) := by
  obtain ⟨b, off, rfl⟩ := h.rd.at (by simp)
  exact ⟨b, off, rfl, h.len.symm, by simpa using h.rd.cell 0 (by simp), by simpa using h.rd.cell 1 (by simp)⟩
theorem args3 {w : World} {p : Option Addr} {n cap : Nat} {x y z : Int} (h : Sl .i64 w p n cap [x, y, z]) : ∃ b off, p = some ⟨b, off, none⟩ ∧ n = 3 ∧ w.cell? ⟨b, off, none⟩ = some (.int .i64 x) ∧ w.cell? ⟨b, off + 1, none⟩ = some (.int .i64 y) ∧ w.cell? ⟨b, off + 2, none⟩ = some (.int .i64 z) := by
  obtain ⟨b, off, rfl⟩ := h.rd.at (by simp)
  exact ⟨b, off, rfl, h.len.symm, by simpa using h.rd.cell 0 (by simp), by simpa using h.rd.cell 1 (by simp), by simpa using h.rd.cell 2 (by simp)⟩
theorem args4 {w : World} {p : Option Addr} {n cap : Nat} {x y z t : Int} (h : Sl .i64 w p n cap [x, y, z, t]) : ∃ b off, p = some ⟨b, off, none⟩ ∧ n = 4 ∧ w.cell? ⟨b, off, none⟩ = some (.int .i64 x) ∧ w.cell? ⟨b, off + 1, none⟩ = some (.int .i64 y) ∧ w.cell? ⟨b, off + 2, none⟩ = some (.int .i64 z) ∧ w.cell? ⟨b, off + 3, none⟩ = some (.int .i64 t) := by
  obtain ⟨b, off, rfl⟩ := h.rd.at (by simp)
  exact ⟨b, off, rfl, h.len.symm, by simpa using h.rd.cell 0 (by simp), by simpa using h.rd.cell 1 (by simp), by simpa using h.rd.cell 2 (by simp), by simpa using h.rd.cell 3 (by simp)⟩

theorem fit0 {a : List Int} (h : pm.fitL a []) : a = [] := by
  cases a with
  | nil => rfl
  | cons x l => exact h.elim
theorem fit1 {a : List Int} {p : Int × Int} (h : pm.fitL a [p]) : ∃ x, a = [x] ∧ p.1 ≤ x ∧ x ≤ p.2 := by
  match a, h with
  | [x], ⟨h1, h2, _⟩ => exact ⟨x, rfl, h1, h2⟩
  | [], h => exact h.elim
  | _ :: _ :: _, h => exact h.2.2.elim
theorem fit2 {a : List Int} {p q : Int × Int} (h : pm.fitL a [p, q]) : ∃ x y, a = [x, y] ∧ (p.1 ≤ x ∧ x ≤ p.2) ∧ q.1 ≤ y ∧ y ≤ q.2 := by
  match a, h with
  | [], h => exact h.elim
  | x :: l, ⟨h1, h2, h3⟩ => obtain ⟨y, rfl, h4⟩ := fit1 h3; exact ⟨x, y, rfl, ⟨h1, h2⟩, h4⟩
theorem fit3 {a : List Int} {p q r : Int × Int} (h : pm.fitL a [p, q, r]) : ∃ x y z, a = [x, y, z] ∧ (p.1 ≤ x ∧ x ≤ p.2) ∧ (q.1 ≤ y ∧ y ≤ q.2) ∧ r.1 ≤ z ∧ z ≤ r.2 := by
  match a, h with
  | [], h => exact h.elim
  | x :: l, ⟨h1, h2, h3⟩ => obtain ⟨y, z, rfl, h4⟩ := fit2 h3; exact ⟨x, y, z, rfl, ⟨h1, h2⟩, h4⟩
theorem fit4 {a : List Int} {p q r s : Int × Int} (h : pm.fitL a [p, q, r, s]) : ∃ x y z t, a = [x, y, z, t] ∧ (p.1 ≤ x ∧ x ≤ p.2) ∧ (q.1 ≤ y ∧ y ≤ q.2) ∧ (r.1 ≤ z ∧ z ≤ r.2) ∧ s.1 ≤ t ∧ t ≤ s.2 := by
  match a, h with
  | [], h => exact h.elim
  | x :: l, ⟨h1, h2, h3⟩ => obtain ⟨y, z, t, rfl, h4⟩ := fit3 h3; exact ⟨x, y, z, t, rfl, ⟨h1, h2⟩, h4⟩

theorem below_of {P : Program} {f : FuncId} {args : Array Value} {w : World} {v : Value} (h : Calls P f args w fun e w' => e = .returned v ∧ w = w') : Calls P f args w fun e w' => e = .returned v ∧ Below w.heap.size w w' :=
  h.mono fun _ _ ⟨he, hw⟩ => ⟨he, hw ▸ Below.refl _ _⟩

def EachF (f : FuncId) (k : Nat) : Prop := ∀ (a : List Int) (s : Int) (p : Option Addr) (n cap : Nat) (w : World), pm.okA k a → 0 ≤ s → s ≤ 65535 → Sl .i64 w p n cap a →
  Calls Try.prog f #[.slice p n cap, .int .i64 s] w fun e w' => e = .returned (.int .i64 (pm.raw k a s)) ∧ Below w.heap.size w w'

theorem each0 : EachF 33 0 := by
  intro a s p n cap w h h1 h2 hA
  have HV : Hid (pm.raw 0 a s = 65535 - s) := Lib.hid rfl
  rw [HV.out]
  clear hA h
  go_enter Try.func33, Try.ntmps33
  go_wp2
  go_ret
  exact ⟨rfl, Below.refl _ _⟩

theorem each3 : EachF 38 3 := by
  intro a s p n cap w h h1 h2 hA
  obtain ⟨x, y, rfl, hx, hy⟩ := fit2 (show pm.fitL a [(0, 65535), (0, 65535)] from h.1)
  have hxy : x < y := by have := h.2.1; simp [pm.arg] at this; exact this
  obtain ⟨b, off, rfl, rfl, c0, c1⟩ := args2 hA
  have HV : Hid (pm.raw 3 [x, y] s = (s - x) * 65535 / (y - x)) := Lib.hid rfl
  rw [HV.out]
  clear hA h
  go_enter Try.func38, Try.ntmps38
  go_wp2_with fail
  have W1 : IntKind.i64.wrap (s - x) = s - x := IntWalk.i64_in _ (by omega)
  have W2 : IntKind.i64.wrap ((s - x) * 65535) = (s - x) * 65535 := IntWalk.i64_in _ (by omega)
  have W3 : IntKind.i64.wrap (y - x) = y - x := IntWalk.i64_in _ (by omega)
  have CN : Hid (∀ d os, Calls Try.prog 39 #[.int .i64 ((s - x) * 65535), .int .i64 (y - x)] (grow (redrawn w d) os) fun e w'' => e = .returned (.int .i64 ((s - x) * 65535 / (y - x))) ∧ ∃ p : Regrown, w'' = grow (redrawn w p.d) p.os) :=
    Lib.hid (fun d os => Calls.regrown_of (below_of (over_any _ _ _ (by omega) (by omega) (by omega) (by omega))))
  have k0 := cell_regrown c0
  have k1 := cell_regrown c1
  refine wp_region_quiet_below (by kernel_rfl) (by kernel_rfl) ?_
  repeat (go_big_quiet_step (exact CN.out _ _))
  refine wpQuiet_nil ?_
  intro _ hw'
  obtain ⟨⟨dq, osq⟩, hw''⟩ := hw'
  subst hw''
  have hb := below_regrown w dq osq
  clear k0 k1 W1 W2 W3
  generalize grow (redrawn w dq) osq = w4 at *
  go_wp2
  go_ret
  exact ⟨rfl, hb⟩
theorem each4 : EachF 40 4 := by
  intro a s p n cap w h h1 h2 hA
  obtain ⟨x, y, rfl, hx, hy⟩ := fit2 (show pm.fitL a [(0, 65535), (0, 65535)] from h.1)
  have hxy : x ≤ y := by have := h.2.2; simp [pm.arg] at this; exact this
  obtain ⟨b, off, rfl, rfl, c0, c1⟩ := args2 hA
  have HV : Hid (pm.raw 4 [x, y] s = x + s * (y - x) / 65535) := Lib.hid rfl
  rw [HV.out]
  have hm := pm.mul_range (x := s) (y := y - x) (A := 65535) (B := 65535) (by omega) (by omega)
  simp only at hx hy
  clear hA h
  go_enter Try.func40, Try.ntmps40
  go_wp2_with fail
  have W1 : IntKind.i64.wrap (y - x) = y - x := IntWalk.i64_in _ (by omega)
  have W2 : IntKind.i64.wrap (s * (y - x)) = s * (y - x) := IntWalk.i64_in _ (by omega)
  have W3 : (s * (y - x)).tdiv 65535 = s * (y - x) / 65535 := Int.tdiv_eq_ediv_of_nonneg hm.1
  have W4 : IntKind.i64.wrap (s * (y - x) / 65535) = s * (y - x) / 65535 := IntWalk.i64_in _ (by omega)
  have W5 : IntKind.i64.wrap (x + s * (y - x) / 65535) = x + s * (y - x) / 65535 := IntWalk.i64_in _ (by omega)
  have k0 := cell_regrown c0
  have k1 := cell_regrown c1
  refine wp_region_quiet_below (by kernel_rfl) (by kernel_rfl) ?_
  repeat (go_big_quiet_step (fail))
  refine wpQuiet_nil ?_
  intro _ hw'
  obtain ⟨⟨dq, osq⟩, hw''⟩ := hw'
  subst hw''
  have hb := below_regrown w dq osq
  clear k0 k1 W1 W2 W3 W4 W5
  generalize grow (redrawn w dq) osq = w4 at *
  go_wp2
  go_ret
  exact ⟨rfl, hb⟩

theorem each5 : EachF 41 5 := by
  intro a s p n cap w h h1 h2 hA
  obtain ⟨x, rfl, hx⟩ := fit1 (show pm.fitL a [(-65535, 65535)] from h.1)
  obtain ⟨b, off, rfl, rfl, c0⟩ := args1 hA
  have HV : Hid (pm.raw 5 [x] s = s + x) := Lib.hid rfl
  rw [HV.out]
  simp only at hx
  clear hA h
  go_enter Try.func41, Try.ntmps41
  go_wp2_with fail
  go_ret
  exact ⟨rfl, Below.refl _ _⟩

theorem each6 : EachF 42 6 := by
  intro a s p n cap w h h1 h2 hA
  obtain ⟨x, y, rfl, hx, hy⟩ := fit2 (show pm.fitL a [(0, 65535), (1, 65535)] from h.1)
  obtain ⟨b, off, rfl, rfl, c0, c1⟩ := args2 hA
  have HV : Hid (pm.raw 6 [x, y] s = s * x / y) := Lib.hid rfl
  rw [HV.out]
  have hm := pm.mul_range (x := s) (y := x) (A := 65535) (B := 65535) (by omega) (by omega)
  simp only at hx hy
  clear hA h
  go_enter Try.func42, Try.ntmps42
  go_wp2_with fail
  have W2 : IntKind.i64.wrap (s * x) = s * x := IntWalk.i64_in _ (by omega)
  have W3 : (s * x).tdiv y = s * x / y := Int.tdiv_eq_ediv_of_nonneg hm.1
  have q0 : 0 ≤ s * x / y := Int.ediv_nonneg hm.1 (by omega)
  have q1 : s * x / y ≤ s * x := Int.ediv_le_self _ hm.1
  have W4 : IntKind.i64.wrap (s * x / y) = s * x / y := IntWalk.i64_in _ (by omega)
  have W5 : (y == 0) = false := by simp; omega
  have k0 := cell_regrown c0
  have k1 := cell_regrown c1
  refine wp_region_quiet_below (by kernel_rfl) (by kernel_rfl) ?_
  repeat (go_big_quiet_step (fail))
  refine wpQuiet_nil ?_
  intro _ hw'
  obtain ⟨⟨dq, osq⟩, hw''⟩ := hw'
  subst hw''
  have hb := below_regrown w dq osq
  clear k0 k1 W2 W3 W4 W5
  generalize grow (redrawn w dq) osq = w4 at *
  go_wp2
  go_ret
  exact ⟨rfl, hb⟩

theorem each8 : EachF 46 8 := by
  intro a s p n cap w h h1 h2 hA
  obtain ⟨x, rfl, hx⟩ := fit1 (show pm.fitL a [(0, 65535)] from h.1)
  obtain ⟨b, off, rfl, rfl, c0⟩ := args1 hA
  have HV : Hid (pm.raw 8 [x] s = if s < x then s else 65535 - s) := Lib.hid rfl
  rw [HV.out]
  simp only at hx
  clear hA h
  by_cases hc : s < x
  · rw [if_pos hc]
    go_enter Try.func46, Try.ntmps46
    go_wp2_with fail
    go_ret
    exact ⟨rfl, Below.refl _ _⟩
  · rw [if_neg hc]
    go_enter Try.func46, Try.ntmps46
    go_wp2_with fail
    go_ret
    exact ⟨rfl, Below.refl _ _⟩

theorem each7 : EachF 43 7 := by
  intro a s p n cap w h h1 h2 hA
  obtain ⟨x, rfl, hx⟩ := fit1 (show pm.fitL a [(2, 256)] from h.1)
  obtain ⟨b, off, rfl, rfl, c0⟩ := args1 hA
  have HV : Hid (pm.raw 7 [x] s = tm.upV (tm.downV s (x - 1)) (x - 1)) := Lib.hid rfl
  rw [HV.out]
  have hr := tm.upV_range (tm.downV s (x - 1)) (x - 1)
  simp only at hx
  clear hA h
  go_enter Try.func43, Try.ntmps43
  go_wp2_with fail
  refine (down_any s (x - 1) _ ⟨h1, h2⟩).mono ?_
  rintro e w' ⟨rfl, rfl⟩
  go_wp2_with fail
  refine (up_any (tm.downV s (x - 1)) (x - 1) _).mono ?_
  rintro e w' ⟨rfl, rfl⟩
  go_wp2_with fail
  go_ret
  exact ⟨rfl, Below.refl _ _⟩

theorem each9 : EachF 47 9 := by
  intro a s p n cap w h h1 h2 hA
  obtain ⟨x, rfl, hx⟩ := fit1 (show pm.fitL a [(1, 3)] from h.1)
  obtain ⟨b, off, rfl, rfl, c0⟩ := args1 hA
  have hm := pm.mul_range (x := s) (y := s) (A := 65535) (B := 65535) (by omega) (by omega)
  simp only at hx
  clear hA h
  rcases (show x = 1 ∨ x = 2 ∨ x = 3 by omega) with rfl | rfl | rfl
  · have HV : Hid (pm.raw 9 [1] s = s * s / 65535) := Lib.hid rfl
    rw [HV.out]
    go_enter Try.func47, Try.ntmps47
    go_wp2_with fail
    go_ret
    exact ⟨rfl, Below.refl _ _⟩
  · have HV : Hid (pm.raw 9 [2] s = pm.root (s * 65535)) := Lib.hid rfl
    rw [HV.out]
    have hr := pm.root_spec (s * 65535) (by omega) (by omega)
    have hr1 := hr.1
    have hr2 := hr.2.1
    clear hr
    go_enter Try.func47, Try.ntmps47
    go_wp2_with fail
    refine (rootP_any (s * 65535) _ (by omega) (by omega)).mono ?_
    rintro e w' ⟨rfl, rfl⟩
    go_wp2_with fail
    go_ret
    exact ⟨rfl, Below.refl _ _⟩
  · have HV : Hid (pm.raw 9 [3] s = s * s / 65535 * (s * s / 65535) / 65535) := Lib.hid rfl
    rw [HV.out]
    have hq := pm.mul_range (x := s * s / 65535) (y := s * s / 65535) (A := 65535) (B := 65535) (by omega) (by omega)
    go_enter Try.func47, Try.ntmps47
    go_wp2_with fail
    go_ret
    exact ⟨rfl, Below.refl _ _⟩
end Go.Proofs.Ytdemndjenlhahaa
