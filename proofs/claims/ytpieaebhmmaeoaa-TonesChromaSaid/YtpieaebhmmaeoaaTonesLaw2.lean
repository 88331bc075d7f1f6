/- The walks of TonesChroma and TonesNear. -/
import Derived.Test.YtpieaebhmmaeoaaTonesWakes
import Derived.Test.YtpieaebhmmaeoaaTonesLaw1
namespace Go.Proofs.Ytpieaebhmmaeoaa
open Go.RowKit

theorem box_cells3 (w w1 : World) (t : TypeId) (x y z : Value) (hb : Below (w.alloc (.cells #[x, y, z] t)).heap.size (w.alloc (.cells #[x, y, z] t)) w1) :
    w1.cell? ⟨w.heap.size, 0, none⟩ = some x ∧ w1.cell? ⟨w.heap.size, 1, none⟩ = some y ∧ w1.cell? ⟨w.heap.size, 2, none⟩ = some z ∧ Below w.heap.size w w1 ∧ w.heap.size < w1.heap.size := by
  have hz : w.heap.size < w1.heap.size := by have := hb.size; simp at this; omega
  exact ⟨(hb.cell (by simp)).trans (by rw [World.cell?_alloc_at _ _ _ _ rfl]; rfl), (hb.cell (by simp)).trans (by rw [World.cell?_alloc_at _ _ _ _ rfl]; rfl), (hb.cell (by simp)).trans (by rw [World.cell?_alloc_at _ _ _ _ rfl]; rfl),
    ((Below.refl w.heap.size w).alloc (Nat.le_refl _) _).trans (hb.mono (by simp)), hz⟩

set_option maxRecDepth 100000 in
set_option maxHeartbeats 800000 in
theorem tonesChroma_said (x y z : Int) (w : World) (_hx : (Lit.int .i64 x).wf = true) (_hy : (Lit.int .i64 y).wf = true) (_hz : (Lit.int .i64 z).wf = true) :
    Calls Try.prog 6 #[.agg #[.int .i64 x, .int .i64 y, .int .i64 z]] w fun e w' => e = .returned (.bool true) ∧ Below w.heap.size w w' := by
  clear _hx _hy _hz
  go_enter Try.func6, Try.ntmps6
  go_wp2_with fail
  go_must (refine (wakes_any _).mono ?_)
  rintro e w1 ⟨rfl, hb1⟩
  obtain ⟨x1, x2, x3, hb, hz⟩ := box_cells3 _ _ _ _ _ _ hb1
  have B1 := Lib.hid hb
  have X1 := Lib.hid x1
  have X2 := Lib.hid x2
  have X3 := Lib.hid x3
  clear hb1 hb
  go_wp2_with fail
  go_must (refine (ycc_any x y z _).mono ?_)
  rintro e w2 ⟨rfl, hb2⟩
  have B2 := Lib.hid (B1.out.trans (hb2.mono B1.out.size))
  have x1' := (hb2.cell (p := ⟨w.heap.size, 0, none⟩) hz).trans x1
  have x2' := (hb2.cell (p := ⟨w.heap.size, 1, none⟩) hz).trans x2
  have x3' := (hb2.cell (p := ⟨w.heap.size, 2, none⟩) hz).trans x3
  clear hb2 x1 x2 x3
  go_wp2_with fail
  go_must (refine (refYcc_any x y z _).mono ?_)
  rintro e w3 ⟨rfl, rfl⟩
  generalize tm.yy x y z = q1
  generalize tm.cb x y z = q2
  generalize tm.cr x y z = q3
  go_wp2_with fail
  go_must (refine (rgb_any x y z _).mono ?_)
  rintro e w3 ⟨rfl, rfl⟩
  go_wp2_with fail
  go_must (refine (refRgb_any x y z _).mono ?_)
  rintro e w3 ⟨rfl, rfl⟩
  generalize tm.rr x y z = q4
  generalize tm.gg x y z = q5
  generalize tm.bb x y z = q6
  go_wp2_with fail
  go_ret
  exact ⟨rfl, B2.out⟩

theorem u8_of {x : Int} (h : (Lit.int .u8 x).wf = true) : 0 ≤ x ∧ x ≤ 255 := by
  simp [Lit.wf, IntKind.min, IntKind.max, IntKind.bits, IntKind.signed] at h
  omega
theorem tm.off_le {a b : Int} (h : -2 ≤ a - b ∧ a - b ≤ 2) : (if a < b then b - a else a - b) ≤ 2 := by split <;> omega

set_option maxRecDepth 100000 in
set_option maxHeartbeats 800000 in
theorem tonesNear_said (x y z : Int) (w : World) (hx : (Lit.int .u8 x).wf = true) (hy : (Lit.int .u8 y).wf = true) (hz : (Lit.int .u8 z).wf = true) :
    Calls Try.prog 7 #[.agg #[.int .u8 x, .int .u8 y, .int .u8 z]] w fun e w' => e = .returned (.bool true) ∧ Below w.heap.size w w' := by
  have hx := u8_of hx
  have hy := u8_of hy
  have hz := u8_of hz
  obtain ⟨hn1, hn2, hn3⟩ := tm.back_near hx hy hz
  have R1 := tm.clampTo_range (tm.clampTo (tm.yy x y z) 255 + (91881 * (tm.clampTo (tm.cr x y z) 255 - 128) + 32768) / 65536)
  have R2 := tm.clampTo_range (tm.clampTo (tm.yy x y z) 255 - (22554 * (tm.clampTo (tm.cb x y z) 255 - 128) + 46802 * (tm.clampTo (tm.cr x y z) 255 - 128) + 32768) / 65536)
  have R3 := tm.clampTo_range (tm.clampTo (tm.yy x y z) 255 + (116130 * (tm.clampTo (tm.cb x y z) 255 - 128) + 32768) / 65536)
  have R1 : 0 ≤ tm.rr (tm.yy x y z) (tm.cb x y z) (tm.cr x y z) ∧ tm.rr (tm.yy x y z) (tm.cb x y z) (tm.cr x y z) ≤ 255 := R1
  have R2 : 0 ≤ tm.gg (tm.yy x y z) (tm.cb x y z) (tm.cr x y z) ∧ tm.gg (tm.yy x y z) (tm.cb x y z) (tm.cr x y z) ≤ 255 := R2
  have R3 : 0 ≤ tm.bb (tm.yy x y z) (tm.cb x y z) (tm.cr x y z) ∧ tm.bb (tm.yy x y z) (tm.cb x y z) (tm.cr x y z) ≤ 255 := R3
  have t1 := tm.off_le hn1
  have t2 := tm.off_le hn2
  have t3 := tm.off_le hn3
  clear hn1 hn2 hn3
  have T1 := Lib.hid t1
  have T2 := Lib.hid t2
  have T3 := Lib.hid t3
  clear t1 t2 t3
  go_enter Try.func7, Try.ntmps7
  go_wp2_with fail
  go_must (refine (wakes_any _).mono ?_)
  rintro e w1 ⟨rfl, hb1⟩
  obtain ⟨x1, x2, x3, hb, hsz⟩ := box_cells3 _ _ _ _ _ _ hb1
  have B1 := Lib.hid hb
  clear hb1 hb
  go_wp2_with fail
  go_must (refine (ycc_any x y z _).mono ?_)
  rintro e w2 ⟨rfl, hb2⟩
  have B2 := Lib.hid (B1.out.trans (hb2.mono B1.out.size))
  have x1' := (hb2.cell (p := ⟨w.heap.size, 0, none⟩) hsz).trans x1
  have x2' := (hb2.cell (p := ⟨w.heap.size, 1, none⟩) hsz).trans x2
  have x3' := (hb2.cell (p := ⟨w.heap.size, 2, none⟩) hsz).trans x3
  clear hb2 x1 x2 x3
  generalize tm.yy x y z = q1 at *
  generalize tm.cb x y z = q2 at *
  generalize tm.cr x y z = q3 at *
  go_wp2_with fail
  go_must (refine (rgb_any q1 q2 q3 _).mono ?_)
  rintro e w3 ⟨rfl, rfl⟩
  generalize tm.rr q1 q2 q3 = q4 at *
  generalize tm.gg q1 q2 q3 = q5 at *
  generalize tm.bb q1 q2 q3 = q6 at *
  go_wp2_with fail
  go_must (refine (off_any q4 x _ R1 hx).mono ?_)
  rintro e w3 ⟨rfl, rfl⟩
  have t1 := T1.out
  generalize (if q4 < x then x - q4 else q4 - x) = d1 at *
  go_wp2_with fail
  go_must (refine (off_any q5 y _ R2 hy).mono ?_)
  rintro e w3 ⟨rfl, rfl⟩
  have t2 := T2.out
  generalize (if q5 < y then y - q5 else q5 - y) = d2 at *
  go_wp2_with fail
  go_must (refine (off_any q6 z _ R3 hz).mono ?_)
  rintro e w3 ⟨rfl, rfl⟩
  have t3 := T3.out
  generalize (if q6 < z then z - q6 else q6 - z) = d3 at *
  go_wp2_with fail
  go_ret
  exact ⟨rfl, B2.out⟩
end Go.Proofs.Ytpieaebhmmaeoaa
