/- The walks of the greys and of the distance of two colours. -/
import Derived.Test.YtpieaebhmmaeoaaTones1
import Derived.Deep.WholeRow
import Derived.Deep.QuietTactic
import Derived.BigQuiet
namespace Go.Proofs.Ytpieaebhmmaeoaa
open Go.RowKit

/-- a colour's value -/
def col (r g b a : Int) : Value := .agg #[.int .u16 r, .int .u16 g, .int .u16 b, .int .u16 a]

set_option maxRecDepth 100000 in
theorem luma_any (r g b a : Int) (w : World) (hr : 0 ≤ r ∧ r ≤ 65535) (hg : 0 ≤ g ∧ g ≤ 65535) (hb : 0 ≤ b ∧ b ≤ 65535) :
    Calls Try.prog 14 #[.agg #[.int .u16 r, .int .u16 g, .int .u16 b, .int .u16 a]] w fun e w' => e = .returned (.int .u16 (tm.luma r g b)) ∧ Below w.heap.size w w' := by
  have hl := tm.luma_range hr hg hb
  unfold tm.luma at *
  go_enter Try.func14, Try.ntmps14
  go_wp2
  go_ret
  exact ⟨rfl, ((Below.refl _ _).alloc (Nat.le_refl _) _).alloc (by simp) _⟩

set_option maxRecDepth 100000 in
theorem refLuma_any (r g b a : Int) (w : World) (hr : 0 ≤ r ∧ r ≤ 65535) (hg : 0 ≤ g ∧ g ≤ 65535) (hb : 0 ≤ b ∧ b ≤ 65535) :
    Calls Try.prog 15 #[.agg #[.int .u16 r, .int .u16 g, .int .u16 b, .int .u16 a]] w fun e w' => e = .returned (.int .u16 (tm.luma r g b)) ∧ Below w.heap.size w w' := by
  have hl := tm.luma_range hr hg hb
  unfold tm.luma at *
  go_enter Try.func15, Try.ntmps15
  go_wp2
  go_ret
  exact ⟨rfl, (Below.refl _ _).alloc (Nat.le_refl _) _⟩

set_option maxRecDepth 100000 in
theorem far_any (r g b a r' g' b' a' : Int) (w : World) (hr : 0 ≤ r ∧ r ≤ 65535) (hg : 0 ≤ g ∧ g ≤ 65535) (hb : 0 ≤ b ∧ b ≤ 65535) (hr' : 0 ≤ r' ∧ r' ≤ 65535) (hg' : 0 ≤ g' ∧ g' ≤ 65535) (hb' : 0 ≤ b' ∧ b' ≤ 65535) :
    Calls Try.prog 23 #[.agg #[.int .u16 r, .int .u16 g, .int .u16 b, .int .u16 a], .agg #[.int .u16 r', .int .u16 g', .int .u16 b', .int .u16 a']] w fun e w' => e = .returned (.int .i64 (tm.far r g b r' g' b')) ∧ Below w.heap.size w w' := by
  unfold tm.far
  have q1 := tm.sq_range hr hr'
  have q2 := tm.sq_range hg hg'
  have q3 := tm.sq_range hb hb'
  go_enter Try.func23, Try.ntmps23
  go_wp2
  go_quiet (fail)
  go_wp2
  go_ret
  exact ⟨rfl, below_drewN (((Below.refl _ _).alloc (Nat.le_refl _) _).alloc (by simp) _) _⟩
end Go.Proofs.Ytpieaebhmmaeoaa
