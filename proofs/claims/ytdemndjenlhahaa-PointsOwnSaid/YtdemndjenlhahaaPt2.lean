/- The walks of the small functions of points: clamp, over, abs, invert, root. -/
import Derived.Test.YtdemndjenlhahaaPtTones
import Derived.Lib.QuietBelow
import Derived.Deep.LoopGhost
namespace Go.Proofs.Ytdemndjenlhahaa
open Go.RowKit Go.Sort

theorem clampP_any (v : Int) (w : World) :
    Calls Try.prog 67 #[.int .i64 v] w fun e w' => e = .returned (.int .u16 (tm.clampTo v 65535)) ∧ w = w' := by
  have hr := pm.clamp_range v
  rcases (show v < 0 ∨ (0 ≤ v ∧ 65535 < v) ∨ (0 ≤ v ∧ v ≤ 65535) by omega) with h | ⟨h, h'⟩ | ⟨h, h'⟩
  · have HV : Hid (tm.clampTo v 65535 = 0) := Lib.hid (if_pos h)
    rw [HV.out]
    clear hr
    go_enter Try.func67, Try.ntmps67
    go_wp2
    go_ret
    exact ⟨rfl, rfl⟩
  · have HV : Hid (tm.clampTo v 65535 = 65535) := Lib.hid (by unfold tm.clampTo; rw [if_neg (by omega), if_pos h'])
    rw [HV.out]
    clear hr
    go_enter Try.func67, Try.ntmps67
    go_wp2
    go_ret
    exact ⟨rfl, rfl⟩
  · have HV : Hid (tm.clampTo v 65535 = v) := Lib.hid (by unfold tm.clampTo; rw [if_neg (by omega), if_neg (by omega)])
    rw [HV.out]
    clear hr
    go_enter Try.func67, Try.ntmps67
    go_wp2
    go_ret
    exact ⟨rfl, rfl⟩

theorem pm.neg_over (v n : Int) (hn : 0 < n) : v / n = -((n - 1 - v) / n) := by
  have e1 := Int.mul_ediv_add_emod v n
  have e2 := Int.emod_nonneg v (show n ≠ 0 by omega)
  have e3 := Int.emod_lt_of_pos v hn
  have e4 : n - 1 - v = (n - 1 - v % n) + n * (-(v / n)) := by rw [Int.mul_neg]; omega
  have e5 : (n - 1 - v % n) / n = 0 := Int.ediv_eq_zero_of_lt (by omega) (by omega)
  rw [e4, Int.add_mul_ediv_left _ _ (by omega), e5]
  omega

theorem over_any (v n : Int) (w : World) (hn : 0 < n) (hm : n ≤ 4294967296) (h1 : -4611686018427387904 ≤ v) (h2 : v ≤ 4611686018427387904) :
    Calls Try.prog 39 #[.int .i64 v, .int .i64 n] w fun e w' => e = .returned (.int .i64 (v / n)) ∧ w = w' := by
  by_cases hv : v < 0
  · have HV : Hid (v / n = -((n - 1 - v) / n)) := Lib.hid (pm.neg_over v n hn)
    have hq0 : 0 ≤ (n - 1 - v) / n := Int.ediv_nonneg (by omega) (by omega)
    have hq1 : (n - 1 - v) / n ≤ n - 1 - v := Int.ediv_le_self _ (by omega)
    rw [HV.out]
    go_enter Try.func39, Try.ntmps39
    go_wp2
    go_ret
    exact ⟨rfl, rfl⟩
  · have hq0 : 0 ≤ v / n := Int.ediv_nonneg (by omega) (by omega)
    have hq1 : v / n ≤ v := Int.ediv_le_self _ (by omega)
    go_enter Try.func39, Try.ntmps39
    go_wp2
    go_ret
    exact ⟨rfl, rfl⟩

theorem abs_any (v : Int) (w : World) (h1 : -4611686018427387904 ≤ v) (h2 : v ≤ 4611686018427387904) :
    Calls Try.prog 59 #[.int .i64 v] w fun e w' => e = .returned (.int .i64 (if v < 0 then -v else v)) ∧ w = w' := by
  by_cases hv : v < 0
  · rw [if_pos hv]
    go_enter Try.func59, Try.ntmps59
    go_wp2
    go_ret
    exact ⟨rfl, rfl⟩
  · rw [if_neg hv]
    go_enter Try.func59, Try.ntmps59
    go_wp2
    go_ret
    exact ⟨rfl, rfl⟩

/-- the bits of the square root's search: 0, 1, 2, 4, .., 65536 -/
def pm.hv (j : Nat) : Int := if j = 0 then 0 else 2 ^ (j - 1)
def pm.nx (j : Nat) : Int := 2 ^ j
theorem pm.hv_facts : ∀ j, j < 17 → pm.hv (j + 1) = pm.nx j ∧ pm.nx (j + 1) = 2 * pm.nx j ∧ 1 ≤ pm.nx j ∧ pm.nx j ≤ 65536 ∧ pm.hv (j + 1) / 2 = pm.hv j := by decide +kernel

set_option maxRecDepth 100000 in
theorem rootP_any (v : Int) (w : World) (h0 : 0 ≤ v) (h1 : v < 4294967296) :
    Calls Try.prog 48 #[.int .i64 v] w fun e w' => e = .returned (.int .i64 (pm.root v)) ∧ w = w' := by
  go_enter Try.func48, Try.ntmps48
  go_wp2
  go_loopg [3, 4] 17 (fun gk s b wr => ∃ (j : Nat) (x : Int), j ≤ 17 ∧ gk = j ∧ b = .int .i64 (pm.hv j) ∧ s = .int .i64 x ∧ 0 ≤ x ∧ x ≤ 65535 ∧ x * x ≤ v ∧ v < (x + pm.nx j) * (x + pm.nx j) ∧ w = wr)
  case atStart => exact ⟨17, 0, by omega, rfl, rfl, rfl, by omega, by omega, by omega, Int.lt_of_lt_of_le h1 (by decide +kernel), rfl⟩
  case round =>
    obtain ⟨j, x, hj, hg, rfl, rfl, hx0, hx1, hxx, hxv, rfl⟩ := hrel
    have Hg := Lib.hid hg
    clear hg
    cases j with
    | zero =>
      have HV : Hid (x = pm.root v) := Lib.hid (pm.root_eq h0 h1 hx0 hxx hxv)
      have e0 : pm.hv 0 = 0 := rfl
      rw [e0]
      clear hxx hxv e0
      go_wp2
      go_ret
      exact ⟨by rw [← HV.out]; rfl, rfl⟩
    | succ j =>
      obtain ⟨e1, e2, e3, e4, e5⟩ := pm.hv_facts j (by omega)
      rw [e2] at hxv
      rw [e1] at e5 ⊢
      have E5 := Lib.hid e5
      clear e1 e2 e5
      have ez : x + 2 * pm.nx j = x + pm.nx j + pm.nx j := by omega
      rw [ez] at hxv
      have HX := Lib.hid hxv
      clear hxv ez
      have hm := pm.mul_range (x := x + pm.nx j) (y := x + pm.nx j) (A := 131071) (B := 131071) (by omega) (by omega)
      by_cases hle : (x + pm.nx j) * (x + pm.nx j) ≤ v
      · have hb : x + pm.nx j ≤ 65535 := by
          have := pm.sq_lt (s := x + pm.nx j) (t := 65536) (by omega) (by omega) (by omega)
          omega
        go_wp2
        go_roundg j
        case measure => have := Hg.out; omega
        case rel => exact ⟨j, x + pm.nx j, by omega, rfl, by rw [E5.out], rfl, by omega, hb, hle, HX.out, rfl⟩
      · have HL := Lib.hid hle
        have hlt : v < (x + pm.nx j) * (x + pm.nx j) := by omega
        clear hle
        go_wp2
        go_roundg j
        case measure => have := Hg.out; omega
        case rel => exact ⟨j, x, by omega, rfl, by rw [E5.out], rfl, by omega, by omega, hxx, hlt, rfl⟩
end Go.Proofs.Ytdemndjenlhahaa
