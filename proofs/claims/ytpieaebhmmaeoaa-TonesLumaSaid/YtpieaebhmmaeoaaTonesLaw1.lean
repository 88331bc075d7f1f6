/- The walks of TonesScales, TonesBack, TonesLuma. -/
import Derived.Test.YtpieaebhmmaeoaaTonesWakes
import Derived.Deep.RegionHeld3
namespace Go.Proofs.Ytpieaebhmmaeoaa
open Go.RowKit

theorem u16_of {x : Int} (h : (Lit.int .u16 x).wf = true) : 0 ≤ x ∧ x ≤ 65535 := by
  simp [Lit.wf, IntKind.min, IntKind.max, IntKind.bits, IntKind.signed] at h
  omega

set_option maxRecDepth 100000 in
set_option maxHeartbeats 800000 in
theorem tonesScales_said (v s most : Int) (w : World) (_hv : (Lit.int .i64 v).wf = true) (hs : (Lit.int .u16 s).wf = true) (_hm : (Lit.int .i64 most).wf = true) :
    Calls Try.prog 3 #[.int .i64 v, .int .u16 s, .int .i64 most] w fun e w' => e = .returned (.bool true) ∧ Below w.heap.size w w' := by
  have hs' := u16_of hs
  clear hs _hv _hm
  go_enter Try.func3, Try.ntmps3
  go_wp2_with fail
  go_must (refine (wakes_any _).mono ?_)
  rintro e w1 ⟨rfl, hb1⟩
  have B1 := Lib.hid hb1
  clear hb1
  go_wp2_with fail
  go_must (refine (up_any v most _).mono ?_)
  rintro e w2 ⟨rfl, rfl⟩
  go_wp2_with fail
  go_must (refine (refUp_any v most _).mono ?_)
  rintro e w2 ⟨rfl, rfl⟩
  go_wp2_with fail
  go_must (refine (down_any s most _ hs').mono ?_)
  rintro e w2 ⟨rfl, rfl⟩
  go_wp2_with fail
  go_must (refine (refDown_any s most _ hs').mono ?_)
  rintro e w2 ⟨rfl, rfl⟩
  generalize tm.upV v most = x1
  generalize tm.upE v most = x2
  generalize tm.downV s most = x3
  generalize tm.downE most = x4
  go_wp2_with fail
  go_ret
  exact ⟨rfl, B1.out⟩

set_option maxRecDepth 100000 in
set_option maxHeartbeats 800000 in
theorem tonesBack_said (v x most : Int) (w : World) (_hv : (Lit.int .i64 v).wf = true) (_hs : (Lit.int .i64 x).wf = true) (_hm : (Lit.int .i64 most).wf = true) :
    Calls Try.prog 4 #[.int .i64 v, .int .i64 x, .int .i64 most] w fun e w' => e = .returned (.bool true) ∧ Below w.heap.size w w' := by
  clear _hs _hv _hm
  by_cases h1 : tm.upBad v most
  · have e1 : ((tm.upE v most : Int) != 0) = true := by unfold tm.upE; rw [if_pos h1]; rfl
    clear h1
    go_enter Try.func4, Try.ntmps4
    go_wp2_with fail
    go_must (refine (wakes_any _).mono ?_)
    rintro e w1 ⟨rfl, hb1⟩
    have B1 := Lib.hid hb1
    clear hb1
    go_wp2_with fail
    go_must (refine (up_any v most _).mono ?_)
    rintro e w2 ⟨rfl, rfl⟩
    go_wp2_with fail
    go_must (refine (up_any x most _).mono ?_)
    rintro e w2 ⟨rfl, rfl⟩
    generalize tm.upE v most = y at *
    go_wp2_with fail
    go_ret
    exact ⟨rfl, B1.out⟩
  · by_cases h2 : tm.upBad x most
    · have e1 : tm.upE v most = 0 := by unfold tm.upE; rw [if_neg h1]
      have e2 : ((tm.upE x most : Int) != 0) = true := by unfold tm.upE; rw [if_pos h2]; rfl
      have E1 := Lib.hid e1
      clear h1 h2 e1
      go_enter Try.func4, Try.ntmps4
      go_wp2_with fail
      go_must (refine (wakes_any _).mono ?_)
      rintro e w1 ⟨rfl, hb1⟩
      have B1 := Lib.hid hb1
      clear hb1
      go_wp2_with fail
      go_must (refine (up_any v most _).mono ?_)
      rintro e w2 ⟨rfl, rfl⟩
      rw [E1.out]
      go_wp2_with fail
      go_must (refine (up_any x most _).mono ?_)
      rintro e w2 ⟨rfl, rfl⟩
      generalize tm.upE x most = y at *
      go_wp2_with fail
      go_ret
      exact ⟨rfl, B1.out⟩
    · have E1 := Lib.hid (show tm.upE v most = 0 by unfold tm.upE; rw [if_neg h1])
      have E2 := Lib.hid (show tm.upE x most = 0 by unfold tm.upE; rw [if_neg h2])
      have E3 := Lib.hid (tm.down_up h1)
      have hd : ¬ tm.downBad most := fun hd => h1 (by unfold tm.upBad; unfold tm.downBad at hd; omega)
      have E4 := Lib.hid (show tm.downE most = 0 by unfold tm.downE; rw [if_neg hd])
      have hm := tm.up_mono h1 h2
      have hr := tm.upV_range v most
      have hbb : (decide (v < x) == decide (tm.upV v most < tm.upV x most)) = true := by
        have e : decide (v < x) = decide (tm.upV v most < tm.upV x most) := by rw [decide_eq_decide]; exact hm
        rw [e]; simp
      have HB := Lib.hid hbb
      clear hm hd h1 h2 hbb
      go_enter Try.func4, Try.ntmps4
      go_wp2_with fail
      go_must (refine (wakes_any _).mono ?_)
      rintro e w1 ⟨rfl, hb1⟩
      have B1 := Lib.hid hb1
      clear hb1
      go_wp2_with fail
      go_must (refine (up_any v most _).mono ?_)
      rintro e w2 ⟨rfl, rfl⟩
      rw [E1.out]
      go_wp2_with fail
      go_must (refine (up_any x most _).mono ?_)
      rintro e w2 ⟨rfl, rfl⟩
      rw [E2.out]
      go_wp2_with fail
      go_must (refine (down_any (tm.upV v most) most _ hr).mono ?_)
      rintro e w2 ⟨rfl, rfl⟩
      rw [E3.out, E4.out]
      have hbb := HB.out
      generalize tm.upV v most = p at *
      generalize tm.upV x most = q at *
      go_wp2_with fail
      go_ret
      exact ⟨rfl, B1.out⟩

set_option maxRecDepth 100000 in
set_option maxHeartbeats 800000 in
theorem tonesLuma_walk (r g b a : Int) (w : World) (hr : 0 ≤ r ∧ r ≤ 65535) (hg : 0 ≤ g ∧ g ≤ 65535) (hb : 0 ≤ b ∧ b ≤ 65535) (ha : 0 ≤ a ∧ a ≤ 65535) :
    Calls Try.prog 5 #[.agg #[.int .u16 r, .int .u16 g, .int .u16 b, .int .u16 a]] w fun e w' => e = .returned (.bool true) ∧ Below w.heap.size w w' := by
  have HG := Lib.hid (tm.luma_grey g)
  go_enter Try.func5, Try.ntmps5
  go_wp2_with fail
  go_must (refine (wakes_any _).mono ?_)
  rintro e w1 ⟨rfl, hb1⟩
  have hz : w.heap.size < w1.heap.size := by have := hb1.size; simp at this; omega
  have x1 : w1.cell? ⟨w.heap.size, 0, none⟩ = some (.int .u16 r) := (hb1.cell (by simp)).trans (by rw [World.cell?_alloc_at _ _ _ _ rfl]; rfl)
  have x2 : w1.cell? ⟨w.heap.size, 1, none⟩ = some (.int .u16 g) := (hb1.cell (by simp)).trans (by rw [World.cell?_alloc_at _ _ _ _ rfl]; rfl)
  have x3 : w1.cell? ⟨w.heap.size, 2, none⟩ = some (.int .u16 b) := (hb1.cell (by simp)).trans (by rw [World.cell?_alloc_at _ _ _ _ rfl]; rfl)
  have x4 : w1.cell? ⟨w.heap.size, 3, none⟩ = some (.int .u16 a) := (hb1.cell (by simp)).trans (by rw [World.cell?_alloc_at _ _ _ _ rfl]; rfl)
  have B1 := Lib.hid (((Below.refl w.heap.size w).alloc (Nat.le_refl _) _).trans (hb1.mono (by simp)))
  clear hb1
  go_wp2_with fail
  have hcum := Lib.hid (Below.refl w1.heap.size w1)
  go_region_held3 (fun w' => w'.cell? ⟨w.heap.size, 0, none⟩ = some (.int .u16 r) ∧ w'.cell? ⟨w.heap.size, 1, none⟩ = some (.int .u16 g) ∧ w'.cell? ⟨w.heap.size, 2, none⟩ = some (.int .u16 b) ∧ w'.cell? ⟨w.heap.size, 3, none⟩ = some (.int .u16 a))
    (first
      | go_keep
      | (go_split_ands
         refine ⟨?_, ?_, ?_, ?_⟩ <;> exact keep_cell hbl1.out (by assumption)))
    (first
      | (go_at_call 14; refine (luma_any _ _ _ _ _ (by assumption) (by assumption) (by assumption)).mono ?_; rintro e w2 ⟨rfl, hb1⟩; have hbl1 := Lib.hid hb1; have hcum : Hid (Below w1.heap.size w1 w2) := Lib.hid (by first | exact hcum.out.trans (hb1.mono hcum.out.size) | exact hcum.out.drew.trans (hb1.mono hcum.out.size)); clear hb1)
      | (go_at_call 15; refine (refLuma_any _ _ _ _ _ (by assumption) (by assumption) (by assumption)).mono ?_; rintro e w2 ⟨rfl, hb1⟩; have hbl1 := Lib.hid hb1; have hcum : Hid (Below w1.heap.size w1 w2) := Lib.hid (by first | exact hcum.out.trans (hb1.mono hcum.out.size) | exact hcum.out.drew.trans (hb1.mono hcum.out.size)); clear hb1))
  rw [HG.out]
  go_wp2
  go_ret
  exact ⟨by simp, B1.out.trans (hcum.out.mono B1.out.size)⟩

theorem tonesLuma_said (c : C4) (w : World) (hc : c.ok) :
    Calls Try.prog 5 #[.agg #[.int .u16 c.r, .int .u16 c.g, .int .u16 c.b, .int .u16 c.a]] w fun e w' => e = .returned (.bool true) ∧ Below w.heap.size w w' :=
  tonesLuma_walk c.r c.g c.b c.a w hc.1 hc.2.1 hc.2.2.1 hc.2.2.2
end Go.Proofs.Ytpieaebhmmaeoaa
