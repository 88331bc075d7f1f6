/- 'wakes' of the tones' statements answers true. -/
import Derived.Test.YtpieaebhmmaeoaaTones3
import Derived.Test.YtpieaebhmmaeoaaTones5
namespace Go.Proofs.Ytpieaebhmmaeoaa
open Go.RowKit

theorem up_lit (w : World) : Calls Try.prog 10 #[.int .i64 1, .int .i64 31] w fun e w' => e = .returned (.tuple #[.int .u16 2114, .int .i64 0]) ∧ w = w' := by
  have := up_any 1 31 w
  rw [show tm.upV 1 31 = 2114 from by decide, show tm.upE 1 31 = 0 from by decide] at this
  exact this
theorem down_lit (w : World) : Calls Try.prog 12 #[.int .u16 129, .int .i64 255] w fun e w' => e = .returned (.tuple #[.int .i64 1, .int .i64 0]) ∧ w = w' := by
  have := down_any 129 255 w (by omega)
  rw [show tm.downV 129 255 = 1 from by decide, show tm.downE 255 = 0 from by decide] at this
  exact this
theorem ycc_lit (w : World) : Calls Try.prog 16 #[.int .i64 255, .int .i64 0, .int .i64 0] w fun e w' => e = .returned (.tuple #[.int .i64 76, .int .i64 85, .int .i64 255]) ∧ Below w.heap.size w w' := by
  have := ycc_any 255 0 0 w
  rw [show tm.yy 255 0 0 = 76 from by decide, show tm.cb 255 0 0 = 85 from by decide, show tm.cr 255 0 0 = 255 from by decide] at this
  exact this
theorem rgb_lit (w : World) : Calls Try.prog 18 #[.int .i64 76, .int .i64 85, .int .i64 255] w fun e w' => e = .returned (.tuple #[.int .i64 254, .int .i64 0, .int .i64 0]) ∧ w = w' := by
  have := rgb_any 76 85 255 w
  rw [show tm.rr 76 85 255 = 254 from by decide, show tm.gg 76 85 255 = 0 from by decide, show tm.bb 76 85 255 = 0 from by decide] at this
  exact this
theorem luma_lit (w : World) : Calls Try.prog 14 #[.agg #[.int .u16 65535, .int .u16 0, .int .u16 0, .int .u16 0]] w fun e w' => e = .returned (.int .u16 19595) ∧ Below w.heap.size w w' := by
  have := luma_any 65535 0 0 0 w (by omega) (by omega) (by omega)
  rw [show tm.luma 65535 0 0 = 19595 from by decide] at this
  exact this
theorem nearest_lit (w : World) : Calls Try.prog 21 #[.slice none 0 0, .agg #[.int .u16 0, .int .u16 0, .int .u16 0, .int .u16 0]] w fun e w' => e = .returned (.int .i64 (-1)) ∧ Below w.heap.size w w' :=
  nearest_any none 0 0 [] C4.zero w rfl (Nat.zero_le _) (fun _ h => by cases h) (by unfold C4.ok C4.zero; decide) (.inl rfl)

set_option maxRecDepth 100000 in
set_option maxHeartbeats 800000 in
theorem wakes_any (w : World) : Calls Try.prog 9 #[] w fun e w' => e = .returned (.bool true) ∧ Below w.heap.size w w' := by
  go_enter Try.func9, Try.ntmps9
  go_wp2_with fail
  go_must (refine (up_lit _).mono ?_)
  rintro e w1 ⟨rfl, rfl⟩
  go_wp2_with fail
  go_must (refine (down_lit _).mono ?_)
  rintro e w1 ⟨rfl, rfl⟩
  go_wp2_with fail
  go_must (refine (ycc_lit _).mono ?_)
  rintro e w1 ⟨rfl, hb1⟩
  have B1 := Lib.hid hb1
  clear hb1
  go_wp2_with fail
  go_must (refine (rgb_lit _).mono ?_)
  rintro e w2 ⟨rfl, rfl⟩
  go_wp2_with fail
  go_must (refine (luma_lit _).mono ?_)
  rintro e w2 ⟨rfl, hb2⟩
  have B2 := Lib.hid (B1.out.trans (hb2.mono B1.out.size))
  clear hb2
  go_wp2_with fail
  go_must (refine (nearest_lit _).mono ?_)
  rintro e w3 ⟨rfl, hb3⟩
  have B3 := Lib.hid (B2.out.trans (hb3.mono B2.out.size))
  clear hb3
  go_wp2_with fail
  go_ret
  exact ⟨rfl, B3.out⟩
end Go.Proofs.Ytpieaebhmmaeoaa
