/- The walks of luma and chroma, there and back. -/
import Derived.Test.YtpieaebhmmaeoaaTones2
namespace Go.Proofs.Ytpieaebhmmaeoaa
open Go.RowKit

def ycc12 : Array Value := #[.int .i64 19595, .int .i64 38470, .int .i64 7471, .int .i64 32768, .int .i64 (-11058), .int .i64 (-21710), .int .i64 32768, .int .i64 8421376, .int .i64 32768, .int .i64 (-27439), .int .i64 (-5329), .int .i64 8421376]

set_option maxRecDepth 100000 in
set_option maxHeartbeats 800000 in
theorem ycc_any (r g b : Int) (w : World) :
    Calls Try.prog 16 #[.int .i64 r, .int .i64 g, .int .i64 b] w fun e w' => e = .returned (.tuple #[.int .i64 (tm.yy r g b), .int .i64 (tm.cb r g b), .int .i64 (tm.cr r g b)]) ∧ Below w.heap.size w w' := by
  have i0 : ∀ w, (Instr.index 53 (.agg #[.int .i64 19595, .int .i64 38470, .int .i64 7471, .int .i64 32768, .int .i64 (-11058), .int .i64 (-21710), .int .i64 32768, .int .i64 8421376, .int .i64 32768, .int .i64 (-27439), .int .i64 (-5329), .int .i64 8421376]) (.int .i64 0)).run Try.prog w = .ok (.agg #[.int .i64 19595, .int .i64 38470, .int .i64 7471, .int .i64 32768]) w := fun _ => by kernel_rfl
  have i1 : ∀ w, (Instr.index 53 (.agg #[.int .i64 19595, .int .i64 38470, .int .i64 7471, .int .i64 32768, .int .i64 (-11058), .int .i64 (-21710), .int .i64 32768, .int .i64 8421376, .int .i64 32768, .int .i64 (-27439), .int .i64 (-5329), .int .i64 8421376]) (.int .i64 1)).run Try.prog w = .ok (.agg #[.int .i64 (-11058), .int .i64 (-21710), .int .i64 32768, .int .i64 8421376]) w := fun _ => by kernel_rfl
  have i2 : ∀ w, (Instr.index 53 (.agg #[.int .i64 19595, .int .i64 38470, .int .i64 7471, .int .i64 32768, .int .i64 (-11058), .int .i64 (-21710), .int .i64 32768, .int .i64 8421376, .int .i64 32768, .int .i64 (-27439), .int .i64 (-5329), .int .i64 8421376]) (.int .i64 2)).run Try.prog w = .ok (.agg #[.int .i64 32768, .int .i64 (-27439), .int .i64 (-5329), .int .i64 8421376]) w := fun _ => by kernel_rfl
  have hr := tm.clampTo_range r
  have hg := tm.clampTo_range g
  have hb := tm.clampTo_range b
  unfold tm.yy tm.cb tm.cr
  go_enter Try.func16, Try.ntmps16
  go_wp2_with (go_at_call 24; refine (clamp_any _ _).mono ?_; rintro e w1 ⟨rfl, rfl⟩)
  refine wp_loop_rounds 4 ?_
  rw [rounds_succ]
  go_wp2_with (go_at_call 24; refine (clamp_any _ _).mono ?_; rintro e w1 ⟨rfl, rfl⟩)
  rw [rounds_succ]
  go_wp2_with (go_at_call 24; refine (clamp_any _ _).mono ?_; rintro e w1 ⟨rfl, rfl⟩)
  rw [rounds_succ]
  go_wp2_with (go_at_call 24; refine (clamp_any _ _).mono ?_; rintro e w1 ⟨rfl, rfl⟩)
  rw [rounds_succ]
  go_wp2
  go_quiet (fail)
  go_wp2
  go_ret3
  exact ⟨rfl, below_drewN ((((((Below.refl _ _).alloc (Nat.le_refl _) _).alloc (by simp) _).alloc (by simp; omega) _).alloc (by simp; omega) _).alloc (by simp; omega) _) _⟩

theorem tm.ycc_arg (x y z t : Int) : x - y - z + t = -y + -z + x + t := by omega

set_option maxRecDepth 100000 in
set_option maxHeartbeats 800000 in
theorem refYcc_any (r g b : Int) (w : World) :
    Calls Try.prog 17 #[.int .i64 r, .int .i64 g, .int .i64 b] w fun e w' => e = .returned (.tuple #[.int .i64 (tm.yy r g b), .int .i64 (tm.cb r g b), .int .i64 (tm.cr r g b)]) ∧ w = w' := by
  have hr := tm.clampTo_range r
  have hg := tm.clampTo_range g
  have hb := tm.clampTo_range b
  have H1 : Hid (tm.cb r g b = tm.clampTo ((32768 * tm.clampTo b 255 - 11058 * tm.clampTo r 255 - 21710 * tm.clampTo g 255 + 8421376) / 65536) 255) := Lib.hid (by unfold tm.cb; congr 2; omega)
  have H2 : Hid (tm.cr r g b = tm.clampTo ((32768 * tm.clampTo r 255 - 27439 * tm.clampTo g 255 - 5329 * tm.clampTo b 255 + 8421376) / 65536) 255) := Lib.hid (by unfold tm.cr; congr 2; omega)
  rw [H1.out, H2.out]
  unfold tm.yy
  clear H1 H2
  go_enter Try.func17, Try.ntmps17
  go_wp2_with (first
    | (go_at_call 25; refine (refClamp_any _ _ _).mono ?_; rintro e w1 ⟨rfl, rfl⟩)
    | (go_at_call 26; refine (refOver_any _ _ _ (by omega) (by omega) (by omega) (by omega)).mono ?_; rintro e w1 ⟨rfl, rfl⟩))
  go_ret3
  exact ⟨rfl, rfl⟩

set_option maxRecDepth 100000 in
set_option maxHeartbeats 800000 in
theorem rgb_any (y u v : Int) (w : World) :
    Calls Try.prog 18 #[.int .i64 y, .int .i64 u, .int .i64 v] w fun e w' => e = .returned (.tuple #[.int .i64 (tm.rr y u v), .int .i64 (tm.gg y u v), .int .i64 (tm.bb y u v)]) ∧ w = w' := by
  have hr := tm.clampTo_range y
  have hg := tm.clampTo_range u
  have hb := tm.clampTo_range v
  unfold tm.rr tm.gg tm.bb
  go_enter Try.func18, Try.ntmps18
  go_wp2_with (go_at_call 24; refine (clamp_any _ _).mono ?_; rintro e w1 ⟨rfl, rfl⟩)
  go_ret3
  exact ⟨rfl, rfl⟩

set_option maxRecDepth 100000 in
set_option maxHeartbeats 800000 in
theorem refRgb_any (y u v : Int) (w : World) :
    Calls Try.prog 19 #[.int .i64 y, .int .i64 u, .int .i64 v] w fun e w' => e = .returned (.tuple #[.int .i64 (tm.rr y u v), .int .i64 (tm.gg y u v), .int .i64 (tm.bb y u v)]) ∧ w = w' := by
  have hr := tm.clampTo_range y
  have hg := tm.clampTo_range u
  have hb := tm.clampTo_range v
  unfold tm.rr tm.gg tm.bb
  go_enter Try.func19, Try.ntmps19
  go_wp2_with (first
    | (go_at_call 25; refine (refClamp_any _ _ _).mono ?_; rintro e w1 ⟨rfl, rfl⟩)
    | (go_at_call 26; refine (refOver_any _ _ _ (by omega) (by omega) (by omega) (by omega)).mono ?_; rintro e w1 ⟨rfl, rfl⟩))
  go_ret3
  exact ⟨rfl, rfl⟩
end Go.Proofs.Ytpieaebhmmaeoaa
