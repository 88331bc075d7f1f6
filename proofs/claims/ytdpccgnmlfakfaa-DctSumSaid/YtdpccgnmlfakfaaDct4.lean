/- The walks of Min, Max, fit and the two closures. -/
import Derived.Test.YtdpccgnmlfakfaaDct3
namespace Go.Proofs.Ytdpccgnmlfakfaa
open Go.RowKit

set_option maxRecDepth 100000 in
theorem min_any (a : Option Addr) (n cap : Nat) (l : List Int) (w : World) (hn : l.length = n) (h0 : 0 < n) (hm : n ≤ maxLen) (hr : Rd .i64 w a l) :
    Calls Try.prog 37 #[.slice a n cap] w fun e w' => e = .returned (.int .i64 (dm.minTo l n)) ∧ w = w' := by
  unfold maxLen at hm
  have Hr := Lib.hid hr
  have Hn := Lib.hid hn
  clear hr hn
  obtain ⟨b, off, rfl⟩ := Hr.out.at (by rw [Hn.out]; exact h0)
  have hc0 := Hr.out.cell 0 (by rw [Hn.out]; exact h0)
  rw [Nat.add_zero] at hc0
  have hlt1 : ¬ (n : Int) < 1 := by omega
  have H1 := Lib.hid (dm.minTo_one l)
  generalize l.getD 0 0 = x0 at *
  go_enter Try.func37, Try.ntmps37
  go_wp2
  go_loopg [3, 4] (n - 1) (fun gk s i wr => wr = w ∧ ∃ (k : Nat) (m : Int), 1 ≤ k ∧ k ≤ n ∧ gk = n - k ∧ i = .int .i64 k ∧ s = .int .i64 m ∧ m = dm.minTo l k)
  case atStart => exact ⟨rfl, 1, _, by omega, by omega, by omega, rfl, rfl, by rw [H1.out]⟩
  case round =>
    obtain ⟨rfl, k, m, hk1, hk, hg, rfl, rfl, hme⟩ := hrel
    have Hg := Lib.hid hg
    have Hm := Lib.hid hme
    clear hg hme
    by_cases hlt : k < n
    · have hc1 := Hr.out.cell k (by rw [Hn.out]; exact hlt)
      have HS : Hid (dm.minTo l (k + 1) = if l.getD k 0 < m then l.getD k 0 else m) := Lib.hid (by rw [Hm.out]; rfl)
      generalize l.getD k 0 = x at *
      by_cases hx : x < m
      · go_wp2
        go_roundg (n - (k + 1))
        case measure => have := Hg.out; omega
        case rel => exact ⟨rfl, k + 1, _, by omega, by omega, rfl, by go_num, rfl, by rw [HS.out, if_pos (by omega)]⟩
      · go_wp2
        go_roundg (n - (k + 1))
        case measure => have := Hg.out; omega
        case rel => exact ⟨rfl, k + 1, _, by omega, by omega, rfl, by go_num, rfl, by rw [HS.out, if_neg (by omega)]⟩
    · obtain rfl : k = n := by omega
      go_wp2
      go_ret
      exact ⟨by rw [← Hm.out]; rfl, rfl⟩

set_option maxRecDepth 100000 in
theorem max_any (a : Option Addr) (n cap : Nat) (l : List Int) (w : World) (hn : l.length = n) (h0 : 0 < n) (hm : n ≤ maxLen) (hr : Rd .i64 w a l) :
    Calls Try.prog 38 #[.slice a n cap] w fun e w' => e = .returned (.int .i64 (dm.maxTo l n)) ∧ w = w' := by
  unfold maxLen at hm
  have Hr := Lib.hid hr
  have Hn := Lib.hid hn
  clear hr hn
  obtain ⟨b, off, rfl⟩ := Hr.out.at (by rw [Hn.out]; exact h0)
  have hc0 := Hr.out.cell 0 (by rw [Hn.out]; exact h0)
  rw [Nat.add_zero] at hc0
  have hlt1 : ¬ (n : Int) < 1 := by omega
  have H1 := Lib.hid (dm.maxTo_one l)
  generalize l.getD 0 0 = x0 at *
  go_enter Try.func38, Try.ntmps38
  go_wp2
  go_loopg [3, 4] (n - 1) (fun gk s i wr => wr = w ∧ ∃ (k : Nat) (m : Int), 1 ≤ k ∧ k ≤ n ∧ gk = n - k ∧ i = .int .i64 k ∧ s = .int .i64 m ∧ m = dm.maxTo l k)
  case atStart => exact ⟨rfl, 1, _, by omega, by omega, by omega, rfl, rfl, by rw [H1.out]⟩
  case round =>
    obtain ⟨rfl, k, m, hk1, hk, hg, rfl, rfl, hme⟩ := hrel
    have Hg := Lib.hid hg
    have Hm := Lib.hid hme
    clear hg hme
    by_cases hlt : k < n
    · have hc1 := Hr.out.cell k (by rw [Hn.out]; exact hlt)
      have HS : Hid (dm.maxTo l (k + 1) = if m < l.getD k 0 then l.getD k 0 else m) := Lib.hid (by rw [Hm.out]; rfl)
      generalize l.getD k 0 = x at *
      by_cases hx : m < x
      · go_wp2
        go_roundg (n - (k + 1))
        case measure => have := Hg.out; omega
        case rel => exact ⟨rfl, k + 1, _, by omega, by omega, rfl, by go_num, rfl, by rw [HS.out, if_pos (by omega)]⟩
      · go_wp2
        go_roundg (n - (k + 1))
        case measure => have := Hg.out; omega
        case rel => exact ⟨rfl, k + 1, _, by omega, by omega, rfl, by go_num, rfl, by rw [HS.out, if_neg (by omega)]⟩
    · obtain rfl : k = n := by omega
      go_wp2
      go_ret
      exact ⟨by rw [← Hm.out]; rfl, rfl⟩

set_option maxRecDepth 100000 in
theorem fit_any (a : Option Addr) (n cap : Nat) (l : List Int) (lo hi : Int) (w : World) (hn : l.length = n) (hm : n ≤ maxLen) (hr : Rd .i64 w a l) :
    Calls Try.prog 25 #[.slice a n cap, .int .i64 lo, .int .i64 hi] w fun e w' => e = .returned (.int .i64 (dm.fitE l lo hi)) ∧ w = w' := by
  by_cases h64 : n = 64
  · subst h64
    have HM := Lib.hid (min_any a 64 cap l w hn (by omega) hm hr)
    have HX := Lib.hid (max_any a 64 cap l w hn (by omega) hm hr)
    by_cases h1 : dm.minTo l 64 < lo
    · have HE := Lib.hid (dm.fitE_bad (hi := hi) hn (.inl h1))
      rw [HE.out]
      clear hn hr hm HE
      generalize dm.minTo l 64 = m1 at *
      go_enter Try.func25, Try.ntmps25
      go_wp2_with (go_at_call 37; go_must (refine HM.out.mono ?_; rintro e w1 ⟨rfl, rfl⟩))
      go_ret
      exact ⟨rfl, rfl⟩
    · by_cases h2 : hi < dm.maxTo l 64
      · have HE := Lib.hid (dm.fitE_bad (lo := lo) hn (.inr h2))
        rw [HE.out]
        clear hn hr hm HE
        generalize dm.minTo l 64 = m1 at *
        generalize dm.maxTo l 64 = m2 at *
        go_enter Try.func25, Try.ntmps25
        go_wp2_with (first
          | (go_at_call 37; go_must (refine HM.out.mono ?_; rintro e w1 ⟨rfl, rfl⟩))
          | (go_at_call 38; go_must (refine HX.out.mono ?_; rintro e w1 ⟨rfl, rfl⟩)))
        go_ret
        exact ⟨rfl, rfl⟩
      · have HE := Lib.hid (dm.fitE_good (l := l) (lo := lo) (hi := hi) hn (by omega))
        rw [HE.out]
        clear hn hr hm HE
        generalize dm.minTo l 64 = m1 at *
        generalize dm.maxTo l 64 = m2 at *
        go_enter Try.func25, Try.ntmps25
        go_wp2_with (first
          | (go_at_call 37; go_must (refine HM.out.mono ?_; rintro e w1 ⟨rfl, rfl⟩))
          | (go_at_call 38; go_must (refine HX.out.mono ?_; rintro e w1 ⟨rfl, rfl⟩)))
        go_ret
        exact ⟨rfl, rfl⟩
  · have HE := Lib.hid (dm.fitE_long (l := l) (lo := lo) (hi := hi) (by omega))
    rw [HE.out]
    have hb : ((n : Int) != 64) = true := by simp; omega
    clear hn hr hm HE
    go_enter Try.func25, Try.ntmps25
    go_wp2
    go_ret
    exact ⟨rfl, rfl⟩

theorem same_any (v : Int) (w : World) : Calls Try.prog 28 #[.int .i64 v] w fun e w' => e = .returned (.int .i64 v) ∧ w = w' := by
  go_enter Try.func28, Try.ntmps28
  go_wp2
  go_ret
  exact ⟨rfl, rfl⟩
theorem clamp8_any (v : Int) (w : World) (h1 : -4611686018427387904 ≤ v) (h2 : v ≤ 4611686018427387904) : Calls Try.prog 33 #[.int .i64 v] w fun e w' => e = .returned (.int .i64 (dm.clamp8 v)) ∧ w = w' := by
  rcases (show v + 128 < 0 ∨ (0 ≤ v + 128 ∧ 255 < v + 128) ∨ (0 ≤ v + 128 ∧ v + 128 ≤ 255) by omega) with h | ⟨h, h'⟩ | ⟨h, h'⟩
  · have HV : Hid (dm.clamp8 v = 0) := Lib.hid (if_pos h)
    rw [HV.out]
    go_enter Try.func33, Try.ntmps33
    go_wp2
    go_ret
    exact ⟨rfl, rfl⟩
  · have HV : Hid (dm.clamp8 v = 255) := Lib.hid (by unfold dm.clamp8; rw [if_neg (by omega), if_pos h'])
    rw [HV.out]
    go_enter Try.func33, Try.ntmps33
    go_wp2
    go_ret
    exact ⟨rfl, rfl⟩
  · have HV : Hid (dm.clamp8 v = v + 128) := Lib.hid (by unfold dm.clamp8; rw [if_neg (by omega), if_neg (by omega)])
    rw [HV.out]
    go_enter Try.func33, Try.ntmps33
    go_wp2
    go_ret
    exact ⟨rfl, rfl⟩
end Go.Proofs.Ytdpccgnmlfakfaa
