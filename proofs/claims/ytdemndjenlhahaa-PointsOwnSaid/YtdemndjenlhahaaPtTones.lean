/- The walks of the functions on samples that points and its reference use: Up, Down, Clamp, Over, Luma. -/
import Derived.Test.YtdemndjenlhahaaInts
import Derived.Test.YtdemndjenlhahaaPtMath2
import Derived.Deep.QuietTactic
import Derived.BigQuiet
namespace Go.Proofs.Ytdemndjenlhahaa
open Go.RowKit

theorem up_any (v most : Int) (w : World) :
    Calls Try.prog 45 #[.int .i64 v, .int .i64 most] w fun e w' => e = .returned (.tuple #[.int .u16 (tm.upV v most), .int .i64 (tm.upE v most)]) ∧ w = w' := by
  by_cases hb : tm.upBad v most
  · have HV : Hid (tm.upV v most = 0) := Lib.hid (if_pos hb)
    have HE : Hid (tm.upE v most = 2) := Lib.hid (if_pos hb)
    rw [HV.out, HE.out]
    have hc : most < 1 ∨ (1 ≤ most ∧ 65535 < most) ∨ (1 ≤ most ∧ most ≤ 65535 ∧ v < 0) ∨ (1 ≤ most ∧ most ≤ 65535 ∧ 0 ≤ v ∧ most < v) := by
      unfold tm.upBad at hb; omega
    clear hb
    rcases hc with h | ⟨h1, h⟩ | ⟨h1, h2, h⟩ | ⟨h1, h2, h3, h⟩
    all_goals
      go_enter Try.func45, Try.ntmps45
      go_wp2
      go_ret2
      exact ⟨rfl, rfl⟩
  · have HV : Hid (tm.upV v most = (65535 * v + most / 2) / most) := Lib.hid (if_neg hb)
    have HE : Hid (tm.upE v most = 0) := Lib.hid (if_neg hb)
    have hr := tm.upV_range v most
    rw [HV.out] at hr
    rw [HV.out, HE.out]
    simp only [tm.upBad, not_or] at hb
    obtain ⟨h1, h2, h3, h4⟩ := hb
    go_enter Try.func45, Try.ntmps45
    go_wp2
    go_ret2
    exact ⟨rfl, rfl⟩

theorem refUp_any (v most : Int) (w : World) :
    Calls Try.prog 77 #[.int .i64 v, .int .i64 most] w fun e w' => e = .returned (.tuple #[.int .u16 (tm.upV v most), .int .i64 (tm.upE v most)]) ∧ w = w' := by
  by_cases hb : tm.upBad v most
  · have HV : Hid (tm.upV v most = 0) := Lib.hid (if_pos hb)
    have HE : Hid (tm.upE v most = 2) := Lib.hid (if_pos hb)
    rw [HV.out, HE.out]
    have hc : most < 1 ∨ (1 ≤ most ∧ 65535 < most) ∨ (1 ≤ most ∧ most ≤ 65535 ∧ v < 0) ∨ (1 ≤ most ∧ most ≤ 65535 ∧ 0 ≤ v ∧ most < v) := by
      unfold tm.upBad at hb; omega
    clear hb
    rcases hc with h | ⟨h1, h⟩ | ⟨h1, h2, h⟩ | ⟨h1, h2, h3, h⟩
    all_goals
      go_enter Try.func77, Try.ntmps77
      go_wp2
      go_ret2
      exact ⟨rfl, rfl⟩
  · have HV : Hid (tm.upV v most = (65535 * v + most / 2) / most) := Lib.hid (if_neg hb)
    have HE : Hid (tm.upE v most = 0) := Lib.hid (if_neg hb)
    have hr := tm.upV_range v most
    rw [HV.out] at hr
    rw [HV.out, HE.out]
    simp only [tm.upBad, not_or] at hb
    obtain ⟨h1, h2, h3, h4⟩ := hb
    go_enter Try.func77, Try.ntmps77
    go_wp2
    go_ret2
    exact ⟨rfl, rfl⟩

theorem down_any (v most : Int) (w : World) (hv : 0 ≤ v ∧ v ≤ 65535) :
    Calls Try.prog 44 #[.int .u16 v, .int .i64 most] w fun e w' => e = .returned (.tuple #[.int .i64 (tm.downV v most), .int .i64 (tm.downE most)]) ∧ w = w' := by
  by_cases hb : tm.downBad most
  · have HV : Hid (tm.downV v most = 0) := Lib.hid (if_pos hb)
    have HE : Hid (tm.downE most = 2) := Lib.hid (if_pos hb)
    rw [HV.out, HE.out]
    have hc : most < 1 ∨ (1 ≤ most ∧ 65535 < most) := by
      unfold tm.downBad at hb; omega
    clear hb
    rcases hc with h | ⟨h1, h⟩
    all_goals
      go_enter Try.func44, Try.ntmps44
      go_wp2
      go_ret2
      exact ⟨rfl, rfl⟩
  · have HV : Hid (tm.downV v most = (v * most + 32767) / 65535) := Lib.hid (if_neg hb)
    have HE : Hid (tm.downE most = 0) := Lib.hid (if_neg hb)
    rw [HV.out, HE.out]
    simp only [tm.downBad, not_or] at hb
    obtain ⟨h1, h2⟩ := hb
    have hm0 : 0 ≤ v * most := Int.mul_nonneg (by omega) (by omega)
    have hm1 : v * most ≤ 65535 * 65535 := Int.mul_le_mul (by omega) (by omega) (by omega) (by omega)
    go_enter Try.func44, Try.ntmps44
    go_wp2
    go_ret2
    exact ⟨rfl, rfl⟩

theorem refDown_any (v most : Int) (w : World) (hv : 0 ≤ v ∧ v ≤ 65535) :
    Calls Try.prog 76 #[.int .u16 v, .int .i64 most] w fun e w' => e = .returned (.tuple #[.int .i64 (tm.downV v most), .int .i64 (tm.downE most)]) ∧ w = w' := by
  by_cases hb : tm.downBad most
  · have HV : Hid (tm.downV v most = 0) := Lib.hid (if_pos hb)
    have HE : Hid (tm.downE most = 2) := Lib.hid (if_pos hb)
    rw [HV.out, HE.out]
    have hc : most < 1 ∨ (1 ≤ most ∧ 65535 < most) := by
      unfold tm.downBad at hb; omega
    clear hb
    rcases hc with h | ⟨h1, h⟩
    all_goals
      go_enter Try.func76, Try.ntmps76
      go_wp2
      go_ret2
      exact ⟨rfl, rfl⟩
  · have HV : Hid (tm.downV v most = (v * most + 32767) / 65535) := Lib.hid (if_neg hb)
    have HE : Hid (tm.downE most = 0) := Lib.hid (if_neg hb)
    rw [HV.out, HE.out]
    simp only [tm.downBad, not_or] at hb
    obtain ⟨h1, h2⟩ := hb
    have hm0 : 0 ≤ v * most := Int.mul_nonneg (by omega) (by omega)
    have hm1 : v * most ≤ 65535 * 65535 := Int.mul_le_mul (by omega) (by omega) (by omega) (by omega)
    go_enter Try.func76, Try.ntmps76
    go_wp2
    go_ret2
    exact ⟨rfl, rfl⟩

theorem refClamp_any (v top : Int) (w : World) :
    Calls Try.prog 73 #[.int .i64 v, .int .i64 top] w fun e w' => e = .returned (.int .i64 (tm.clampTo v top)) ∧ w = w' := by
  by_cases h : v < 0
  · have HV : Hid (tm.clampTo v top = 0) := Lib.hid (if_pos h)
    rw [HV.out]
    go_enter Try.func73, Try.ntmps73
    go_wp2
    go_ret
    exact ⟨rfl, rfl⟩
  · by_cases h' : top < v
    · have HV : Hid (tm.clampTo v top = top) := Lib.hid (by unfold tm.clampTo; rw [if_neg h, if_pos h'])
      rw [HV.out]
      go_enter Try.func73, Try.ntmps73
      go_wp2
      go_ret
      exact ⟨rfl, rfl⟩
    · have HV : Hid (tm.clampTo v top = v) := Lib.hid (by unfold tm.clampTo; rw [if_neg h, if_neg h'])
      rw [HV.out]
      go_enter Try.func73, Try.ntmps73
      go_wp2
      go_ret
      exact ⟨rfl, rfl⟩

theorem tm.tdiv_over (v n : Int) (hn : 0 < n) : v / n = (if v.tmod n < 0 then v.tdiv n - 1 else v.tdiv n) ∧ (v.tmod n < 0 ↔ v < 0 ∧ v % n ≠ 0) := by
  have h1 := Int.tdiv_eq_ediv (a := v) (b := n)
  have h2 := Int.tmod_eq_emod (a := v) (b := n)
  have hs : n.sign = 1 := Int.sign_eq_one_of_pos hn
  have hd : n ∣ v ↔ v % n = 0 := ⟨Int.emod_eq_zero_of_dvd, Int.dvd_of_emod_eq_zero⟩
  have h3 := Int.emod_lt_of_pos v hn
  have h4 := Int.emod_nonneg v (show n ≠ 0 by omega)
  have hna : (n.natAbs : Int) = n := Int.natAbs_of_nonneg (by omega)
  rw [hs] at h1
  by_cases hv : 0 ≤ v ∨ n ∣ v
  · rw [if_pos hv] at h1 h2
    have : ¬ v.tmod n < 0 := by omega
    rw [if_neg this]
    refine ⟨by omega, fun h => absurd h this, fun h => ?_⟩
    rcases hv with hv | hv
    · omega
    · exact absurd (hd.1 hv) h.2
  · rw [if_neg hv] at h1 h2
    have h0 : v % n ≠ 0 := fun e => hv (.inr (hd.2 e))
    have : v.tmod n < 0 := by omega
    rw [if_pos this]
    refine ⟨by omega, fun _ => ⟨by omega, h0⟩, fun _ => this⟩

theorem refOver_any (v n : Int) (w : World) (hn : 0 < n) (hm : n ≤ 4294967296) (h1 : -4611686018427387904 ≤ v) (h2 : v ≤ 4611686018427387904) :
    Calls Try.prog 70 #[.int .i64 v, .int .i64 n] w fun e w' => e = .returned (.int .i64 (v / n)) ∧ w = w' := by
  have hd := (tm.tdiv_over v n hn).1
  have hq : v.tdiv n * n + v.tmod n = v := Int.tdiv_mul_add_tmod v n
  have hqn : v.tdiv n * n = n * v.tdiv n := Int.mul_comm _ _
  have hr1 : v.tmod n < n := Int.tmod_lt_of_pos v hn
  have hr2 : -n < v.tmod n := by
    have := Int.tmod_lt_of_pos (-v) hn
    rw [Int.neg_tmod] at this
    omega
  have hb1 : -4611686018427387905 - 4294967296 ≤ v.tdiv n ∧ v.tdiv n ≤ 4611686018427387904 + 4294967296 := by
    generalize v.tdiv n = q at *
    constructor
    · rcases Int.lt_or_le q 0 with h | h
      · have : n * q ≤ 1 * q := Int.mul_le_mul_of_nonpos_right (by omega) (by omega)
        omega
      · omega
    · rcases Int.lt_or_le q 0 with h | h
      · omega
      · have : 1 * q ≤ n * q := Int.mul_le_mul_of_nonneg_right (by omega) (by omega)
        omega
  clear hq hqn hr1 hr2
  by_cases hv : 0 ≤ v
  · have hm0 : 0 ≤ v % n := Int.emod_nonneg _ (by omega)
    have hq0 : 0 ≤ v / n := Int.ediv_nonneg hv (by omega)
    have hq1 : v / n ≤ v := Int.ediv_le_self _ hv
    clear hd hb1
    go_enter Try.func70, Try.ntmps70
    go_wp2
    go_ret
    exact ⟨rfl, rfl⟩
  · by_cases hm0 : v.tmod n < 0
    · rw [if_pos hm0] at hd
      rw [hd]
      clear hd
      go_enter Try.func70, Try.ntmps70
      go_wp2
      go_ret
      exact ⟨rfl, rfl⟩
    · rw [if_neg hm0] at hd
      rw [hd]
      clear hd
      go_enter Try.func70, Try.ntmps70
      go_wp2
      go_ret
      exact ⟨rfl, rfl⟩

/-- a colour's value -/
def C4.val (c : C4) : Value := .agg #[.int .u16 c.r, .int .u16 c.g, .int .u16 c.b, .int .u16 c.a]

set_option maxRecDepth 100000 in
theorem luma_any (r g b a : Int) (w : World) (hr : 0 ≤ r ∧ r ≤ 65535) (hg : 0 ≤ g ∧ g ≤ 65535) (hb : 0 ≤ b ∧ b ≤ 65535) :
    Calls Try.prog 36 #[.agg #[.int .u16 r, .int .u16 g, .int .u16 b, .int .u16 a]] w fun e w' => e = .returned (.int .u16 (tm.luma r g b)) ∧ Below w.heap.size w w' := by
  have hl := tm.luma_range hr hg hb
  unfold tm.luma at *
  go_enter Try.func36, Try.ntmps36
  go_wp2
  go_ret
  exact ⟨rfl, ((Below.refl _ _).alloc (Nat.le_refl _) _).alloc (by simp) _⟩

set_option maxRecDepth 100000 in
theorem refLuma_any (r g b a : Int) (w : World) (hr : 0 ≤ r ∧ r ≤ 65535) (hg : 0 ≤ g ∧ g ≤ 65535) (hb : 0 ≤ b ∧ b ≤ 65535) :
    Calls Try.prog 64 #[.agg #[.int .u16 r, .int .u16 g, .int .u16 b, .int .u16 a]] w fun e w' => e = .returned (.int .u16 (tm.luma r g b)) ∧ Below w.heap.size w w' := by
  have hl := tm.luma_range hr hg hb
  unfold tm.luma at *
  go_enter Try.func64, Try.ntmps64
  go_wp2
  go_ret
  exact ⟨rfl, (Below.refl _ _).alloc (Nat.le_refl _) _⟩

end Go.Proofs.Ytdemndjenlhahaa
