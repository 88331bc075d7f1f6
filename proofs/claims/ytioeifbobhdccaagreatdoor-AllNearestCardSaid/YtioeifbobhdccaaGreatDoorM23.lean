/- Sorting colours: rotation. -/
import Derived.Test.YtioeifbobhdccaaGreatDoorM19
import Derived.RegionTactic
import Derived.BigRegion
import Derived.Test.YtioeifbobhdccaaGreatDoorM5
namespace Go.Proofs.YtioeifbobhdccaaGreatDoor
open Go.RowKit Go.Sort
set_option maxRecDepth 100000 in
set_option maxHeartbeats 800000 in
theorem rotate_any (base b cap : Nat) (t : List C4) (F : Value) (x m y : Nat) (w : World) (h : RowC base w b cap t) (hx : x < m) (hy : m < y) (hyn : y ≤ t.length) (hl : t.length ≤ 1099511627776) :
    Calls Tryz.prog 121 #[.slice (some ⟨b, 0, none⟩) t.length cap, .int .i64 x, .int .i64 m, .int .i64 y, F] w (SortPost base b cap t w) := by
  have HR := Lib.hid h
  obtain ⟨n, hn⟩ : ∃ n, t.length = n := ⟨_, rfl⟩
  rw [hn] at hyn hl ⊢
  have HN := Lib.hid hn
  clear h hn
  obtain ⟨i0, hi0⟩ : ∃ i0, m - x = i0 := ⟨_, rfl⟩
  obtain ⟨j0, hj0⟩ : ∃ j0, y - m = j0 := ⟨_, rfl⟩
  have si : (m : Int) - (x : Int) = (i0 : Int) := by omega
  have sj : (y : Int) - (m : Int) = (j0 : Int) := by omega
  have hi1 : 0 < i0 := by omega
  have hi2 : i0 ≤ m := by omega
  have hj1 : 0 < j0 := by omega
  have hj2 : m + j0 ≤ n := by omega
  clear hi0 hj0 hx hy hyn
  go_enter Tryz.func121, Tryz.ntmps121
  go_wp2_with fail
  clear si sj
  go_loopg [10, 11] (i0 + j0) (fun gk s10 s11 wr => ∃ (i j : Nat) (t1 : List C4), gk = i + j ∧ s10 = .int .i64 i ∧ s11 = .int .i64 j ∧ 0 < i ∧ i ≤ m ∧ 0 < j ∧ m + j ≤ n ∧ Mem t t1 ∧ RowC base wr b cap t1 ∧ w.grownBy wr (some b))
  case atStart => exact ⟨i0, j0, t, rfl, rfl, rfl, hi1, hi2, hj1, hj2, Mem.refl _, HR.out, World.grownBy.refl _ _⟩
  case round =>
    obtain ⟨i, j, t1, hg, rfl, rfl, h1, h2, h3, h4, hm, hr, hgw⟩ := hrel
    have Hg := Lib.hid hg
    have HM := Lib.hid hm
    have HR1 := Lib.hid hr
    have HG := Lib.hid hgw
    have HL1 := Lib.hid (hm.1.trans HN.out)
    clear hg hm hr hgw
    by_cases hne : i = j
    · subst hne
      have CS := Lib.hid (swapRange_any base b cap t1 F (m - i) m i wr HR1.out (by omega) (by have := HL1.out; omega) (by have := HL1.out; omega))
      rw [HL1.out] at CS
      obtain ⟨p, hp⟩ : ∃ p, m - i = p := ⟨_, rfl⟩
      have sp : (m : Int) - (i : Int) = (p : Int) := by omega
      rw [hp] at CS
      clear hp
      go_wp2_with fail
      refine CS.out.mono ?_
      rintro e w2 ⟨rfl, t2, hm2, hr2, hg2⟩
      have H2 := Lib.hid (And.intro hm2 (And.intro hr2 hg2))
      clear hm2 hr2 hg2 CS
      go_wp2_with fail
      refine bodyPost_end (results_none rfl _ _ _) rfl ?_
      exact ⟨rfl, t2, HM.out.trans H2.out.1, H2.out.2.1, HG.out.trans H2.out.2.2⟩
    · by_cases hgt : j < i
      · have CS := Lib.hid (swapRange_any base b cap t1 F (m - i) m j wr HR1.out (by omega) (by have := HL1.out; omega) (by have := HL1.out; omega))
        rw [HL1.out] at CS
        obtain ⟨p, hp⟩ : ∃ p, m - i = p := ⟨_, rfl⟩
        have sp : (m : Int) - (i : Int) = (p : Int) := by omega
        rw [hp] at CS
        have hgt' : (j : Int) < (i : Int) := by omega
        have hbn : ((i : Int) != (j : Int)) = true := by simp; omega
        have HNE := Lib.hid hne
        clear hp hne
        go_wp2_with fail
        refine CS.out.mono ?_
        rintro e w2 ⟨rfl, t2, hm2, hr2, hg2⟩
        have H2 := Lib.hid (And.intro hm2 (And.intro hr2 hg2))
        clear hm2 hr2 hg2 CS
        go_wp2_with fail
        go_roundg (i - j + j)
        case measure => have := Hg.out; omega
        case rel => exact ⟨i - j, j, t2, rfl, by go_num, rfl, by omega, by omega, h3, h4, HM.out.trans H2.out.1, H2.out.2.1, HG.out.trans H2.out.2.2⟩
      · have CS := Lib.hid (swapRange_any base b cap t1 F (m - i) (m + j - i) i wr HR1.out (by omega) (by have := HL1.out; omega) (by have := HL1.out; omega))
        rw [HL1.out] at CS
        obtain ⟨p, hp⟩ : ∃ p, m - i = p := ⟨_, rfl⟩
        obtain ⟨q, hq⟩ : ∃ q, m + j - i = q := ⟨_, rfl⟩
        have sp : (m : Int) - (i : Int) = (p : Int) := by omega
        have sq : (m : Int) + (j : Int) - (i : Int) = (q : Int) := by omega
        rw [hp, hq] at CS
        have hgt' : ¬ (j : Int) < (i : Int) := by omega
        have hbn : ((i : Int) != (j : Int)) = true := by simp; omega
        have HNE := Lib.hid hne
        clear hp hq hne
        go_wp2_with fail
        refine CS.out.mono ?_
        rintro e w2 ⟨rfl, t2, hm2, hr2, hg2⟩
        have H2 := Lib.hid (And.intro hm2 (And.intro hr2 hg2))
        clear hm2 hr2 hg2 CS
        go_wp2_with fail
        go_roundg (i + (j - i))
        case measure => have := Hg.out; have := HNE.out; omega
        case rel => exact ⟨i, j - i, t2, rfl, rfl, by go_num, h1, h2, by have := HNE.out; omega, by omega, HM.out.trans H2.out.1, H2.out.2.1, HG.out.trans H2.out.2.2⟩
end Go.Proofs.YtioeifbobhdccaaGreatDoor
/- Colours compared. -/
namespace Go.Proofs.YtioeifbobhdccaaGreatDoor
open Go.RowKit Go.Sort
def cmpV (x y : Int) : Int := if x < y then -1 else if y < x then 1 else 0
theorem isNaN_any (x : Int) (w : World) : Calls Tryz.prog 87 #[.int .i64 x] w fun e w' => e = .returned (.bool false) ∧ w = w' := by
  go_enter Tryz.func87, Tryz.ntmps87
  go_wp2_with fail
  go_ret
  exact ⟨by simp, rfl⟩
set_option maxRecDepth 100000 in
theorem compare_any (x y : Int) (w : World) : Calls Tryz.prog 57 #[.int .i64 x, .int .i64 y] w fun e w' => e = .returned (.int .i64 (cmpV x y)) ∧ w = w' := by
  have C1 := Lib.hid (fun w => isNaN_any x w)
  have C2 := Lib.hid (fun w => isNaN_any y w)
  by_cases h1 : x < y
  · have HV : Hid (cmpV x y = -1) := Lib.hid (if_pos h1)
    rw [HV.out]
    go_enter Tryz.func57, Tryz.ntmps57
    go_wp2_with fail
    refine (C1.out _).mono ?_
    rintro e w1 ⟨rfl, rfl⟩
    go_wp2_with fail
    refine (C2.out _).mono ?_
    rintro e w1 ⟨rfl, rfl⟩
    go_wp2_with fail
    go_ret
    exact ⟨rfl, rfl⟩
  · by_cases h2 : y < x
    · have HV : Hid (cmpV x y = 1) := Lib.hid (by unfold cmpV; rw [if_neg h1, if_pos h2])
      rw [HV.out]
      go_enter Tryz.func57, Tryz.ntmps57
      go_wp2_with fail
      refine (C1.out _).mono ?_
      rintro e w1 ⟨rfl, rfl⟩
      go_wp2_with fail
      refine (C2.out _).mono ?_
      rintro e w1 ⟨rfl, rfl⟩
      go_wp2_with fail
      go_ret
      exact ⟨rfl, rfl⟩
    · have HV : Hid (cmpV x y = 0) := Lib.hid (by unfold cmpV; rw [if_neg h1, if_neg h2])
      rw [HV.out]
      go_enter Tryz.func57, Tryz.ntmps57
      go_wp2_with fail
      refine (C1.out _).mono ?_
      rintro e w1 ⟨rfl, rfl⟩
      go_wp2_with fail
      refine (C2.out _).mono ?_
      rintro e w1 ⟨rfl, rfl⟩
      go_wp2_with fail
      go_ret
      exact ⟨rfl, rfl⟩
theorem axis_grown (c : C4) (hc : c.ok) (k : Nat) (hk : k < 3) (w : World) (d : Nat) (os : Array Obj) : Calls Tryz.prog 58 #[.agg #[.int .u16 c.r, .int .u16 c.g, .int .u16 c.b, .int .u16 c.a], .int .i64 (k : Nat)] (grow (redrawn w d) os) fun e w'' => e = .returned (.int .i64 (c.axis k)) ∧ ∃ p : Regrown, w'' = grow (redrawn w p.d) p.os :=
  Calls.regrown_of (axis_any c hc k hk _)
theorem compare_grown (x y : Int) (w : World) (d : Nat) (os : Array Obj) : Calls Tryz.prog 57 #[.int .i64 x, .int .i64 y] (grow (redrawn w d) os) fun e w'' => e = .returned (.int .i64 (cmpV x y)) ∧ ∃ p : Regrown, w'' = grow (redrawn w p.d) p.os :=
  (compare_any x y _).mono (by rintro e w' ⟨rfl, rfl⟩; exact ⟨rfl, ⟨d, os⟩, rfl⟩)
set_option maxRecDepth 100000 in
set_option maxHeartbeats 800000 in
theorem cmpK_val (c d : C4) (hc : c.ok) (hd : d.ok) (k : Nat) (hk : k < 3) (kb : Nat) (w : World) (hkb : w.cell? ⟨kb, 0, none⟩ = some (.int .i64 (k : Nat))) :
    Calls Tryz.prog 56 #[.agg #[.int .u16 c.r, .int .u16 c.g, .int .u16 c.b, .int .u16 c.a], .agg #[.int .u16 d.r, .int .u16 d.g, .int .u16 d.b, .int .u16 d.a], .pointer (some ⟨kb, 0, none⟩)] w fun e w' => e = .returned (.int .i64 (cmpV (c.axis k) (d.axis k))) ∧ Below w.heap.size w w' := by
  obtain ⟨q0, q1⟩ := heap2 w (.cells #[.int .u16 c.r, .int .u16 c.g, .int .u16 c.b, .int .u16 c.a] 38) (.cells #[.int .u16 d.r, .int .u16 d.g, .int .u16 d.b, .int .u16 d.a] 38)
  have B0 := Lib.hid (((Below.refl w.heap.size w).alloc (Nat.le_refl _) (.cells #[.int .u16 c.r, .int .u16 c.g, .int .u16 c.b, .int .u16 c.a] 38)).alloc (by simp) (.cells #[.int .u16 d.r, .int .u16 d.g, .int .u16 d.b, .int .u16 d.a] 38))
  have Q0 := Lib.hid q0
  have Q1 := Lib.hid q1
  have kk := keep_cell B0.out hkb
  have A0 := Lib.hid (fun w => axis_grown c hc k hk w)
  have A1 := Lib.hid (fun w => axis_grown d hd k hk w)
  obtain ⟨x, hx⟩ : ∃ x, c.axis k = x := ⟨_, rfl⟩
  obtain ⟨y, hy⟩ : ∃ y, d.axis k = y := ⟨_, rfl⟩
  rw [hx] at A0
  rw [hx, hy]
  rw [hy] at A1
  have A2 := Lib.hid (fun w => compare_grown x y w)
  obtain ⟨z, hz⟩ : ∃ z, cmpV x y = z := ⟨_, rfl⟩
  rw [hz] at A2 ⊢
  clear q0 q1 hkb hx hy hz
  go_enter Tryz.func56, Tryz.ntmps56
  go_wp2_with fail
  generalize (w.alloc (.cells #[.int .u16 c.r, .int .u16 c.g, .int .u16 c.b, .int .u16 c.a] 38)).alloc (.cells #[.int .u16 d.r, .int .u16 d.g, .int .u16 d.b, .int .u16 d.a] 38) = w1 at *
  have x0 := cell_regrown ((cell_of_row w1 _ 0 _ _ (0, 0) Q0.out).trans (show _ = some (Value.int .u16 c.r) from rfl))
  have x1 := cell_regrown ((cell_of_row w1 _ 1 _ _ (0, 0) Q0.out).trans (show _ = some (Value.int .u16 c.g) from rfl))
  have x2 := cell_regrown ((cell_of_row w1 _ 2 _ _ (0, 0) Q0.out).trans (show _ = some (Value.int .u16 c.b) from rfl))
  have x3 := cell_regrown ((cell_of_row w1 _ 3 _ _ (0, 0) Q0.out).trans (show _ = some (Value.int .u16 c.a) from rfl))
  have y0 := cell_regrown ((cell_of_row w1 _ 0 _ _ (0, 0) Q1.out).trans (show _ = some (Value.int .u16 d.r) from rfl))
  have y1 := cell_regrown ((cell_of_row w1 _ 1 _ _ (0, 0) Q1.out).trans (show _ = some (Value.int .u16 d.g) from rfl))
  have y2 := cell_regrown ((cell_of_row w1 _ 2 _ _ (0, 0) Q1.out).trans (show _ = some (Value.int .u16 d.b) from rfl))
  have y3 := cell_regrown ((cell_of_row w1 _ 3 _ _ (0, 0) Q1.out).trans (show _ = some (Value.int .u16 d.a) from rfl))
  have k0 := cell_regrown kk
  refine wp_region_quiet_below (by kernel_rfl) (by kernel_rfl) ?_
  go_big_quiet_step (fail)
  go_big_quiet_step (fail)
  go_big_quiet_step (exact A0.out _ _ _)
  go_big_quiet_step (fail)
  go_big_quiet_step (fail)
  go_big_quiet_step (exact A1.out _ _ _)
  go_big_quiet_step (exact A2.out _ _ _)
  go_big_quiet_step (fail)
  refine wpQuiet_nil ?_
  intro _ hw'
  obtain ⟨⟨dq, osq⟩, hw''⟩ := hw'
  subst hw''
  have HB5 := Lib.hid (B0.out.trans ((below_regrown w1 dq osq).mono B0.out.size))
  clear x0 x1 x2 x3 y0 y1 y2 y3 k0
  generalize grow (redrawn w1 dq) osq = w5 at *
  go_wp2_with fail
  go_ret
  exact ⟨rfl, HB5.out⟩
end Go.Proofs.YtioeifbobhdccaaGreatDoor
/- Sorting colours: by insertion. -/
namespace Go.Proofs.YtioeifbobhdccaaGreatDoor
open Go.RowKit Go.Sort
/-- the comparing function, and what it is compared by -/
def cmpF (kb : Nat) : Value := .func (.func 56) #[] #[.pointer (some ⟨kb, 0, none⟩)]
structure CmpAt (w : World) (b kb k : Nat) : Prop where
  cell : w.cell? ⟨kb, 0, none⟩ = some (.int .i64 (k : Nat))
  few : k < 3
  apart : kb ≠ b
theorem CmpAt.grown {w w' : World} {b kb k : Nat} (h : CmpAt w b kb k) (hg : w.grownBy w' (some b)) : CmpAt w' b kb k :=
  ⟨(World.cell?_of_block (hg.block kb (block_lt_of_cell h.cell) (by intro e; exact h.apart (Option.some.inj e)))).trans h.cell, h.few, h.apart⟩
theorem cmp_grown {w : World} {b kb k : Nat} (h : CmpAt w b kb k) (c d : C4) (hc : c.ok) (hd : d.ok) : ∃ z : Int, ∀ q os, Calls Tryz.prog 56 #[.agg #[.int .u16 c.r, .int .u16 c.g, .int .u16 c.b, .int .u16 c.a], .agg #[.int .u16 d.r, .int .u16 d.g, .int .u16 d.b, .int .u16 d.a], .pointer (some ⟨kb, 0, none⟩)] (grow (redrawn w q) os) fun e w'' => e = .returned (.int .i64 z) ∧ ∃ p : Regrown, w'' = grow (redrawn w p.d) p.os :=
  ⟨cmpV (c.axis k) (d.axis k), fun q os => Calls.regrown_of (cmpK_val c d hc hd k h.few kb _ (cell_regrown h.cell q os))⟩
def okAll (t : List C4) : Prop := ∀ c ∈ t, c.ok
theorem okAll.mem {t t' : List C4} (h : okAll t) (hm : Mem t t') : okAll t' := fun c hc => h c (hm.2 c hc)
set_option maxRecDepth 100000 in
set_option maxHeartbeats 1600000 in
theorem insertion_any (base b cap : Nat) (t : List C4) (kb k x y : Nat) (w : World) (h : RowC base w b cap t) (hc : CmpAt w b kb k) (hok : okAll t) (hxy : x ≤ y) (hy : y ≤ t.length) (hl : t.length ≤ 1099511627776) :
    Calls Tryz.prog 105 #[.slice (some ⟨b, 0, none⟩) t.length cap, .int .i64 x, .int .i64 y, .func (.func 56) #[] #[.pointer (some ⟨kb, 0, none⟩)]] w (SortPost base b cap t w) := by
  have HR := Lib.hid h
  have HC := Lib.hid hc
  have HOK := Lib.hid hok
  obtain ⟨n, hn⟩ : ∃ n, t.length = n := ⟨_, rfl⟩
  rw [hn] at hy hl ⊢
  have HN := Lib.hid hn
  clear h hc hok hn
  go_enter Tryz.func105, Tryz.ntmps105
  go_wp2_with fail
  go_loopg [8] (y + 1 - (x + 1)) (fun gk s8 wr => ∃ (i : Nat) (t1 : List C4), x + 1 ≤ i ∧ i ≤ y + 1 ∧ gk = y + 1 - i ∧ s8 = .int .i64 i ∧ Mem t t1 ∧ RowC base wr b cap t1 ∧ w.grownBy wr (some b))
  case atStart => exact ⟨x + 1, t, Nat.le_refl _, by omega, rfl, by go_num, Mem.refl _, HR.out, World.grownBy.refl _ _⟩
  case round =>
    obtain ⟨i, t1, hi1, hi2, hg, rfl, hm, hr, hgw⟩ := hrel
    have Hg := Lib.hid hg
    have HM := Lib.hid hm
    have HRr := Lib.hid hr
    have HG := Lib.hid hgw
    clear hg hm hr hgw
    by_cases hlt : i < y
    · have hlt' : (i : Int) < (y : Int) := by omega
      go_wp2_with fail
      go_loopg [9] i (fun gk s9 wx => ∃ (j : Nat) (t1 : List C4), x ≤ j ∧ j ≤ i ∧ gk = j ∧ s9 = .int .i64 j ∧ Mem t t1 ∧ RowC base wx b cap t1 ∧ w.grownBy wx (some b))
      case atStart => exact ⟨i, t1, by omega, Nat.le_refl _, rfl, rfl, HM.out, HRr.out, HG.out⟩
      case round =>
        obtain ⟨j, t1, hj1, hj2, hg2, rfl, hm, hr, hgw⟩ := hrel
        have Hg2 := Lib.hid hg2
        have HM1 := Lib.hid hm
        have HR1 := Lib.hid hr
        have HG1 := Lib.hid hgw
        have HL1 := Lib.hid (hm.1.trans HN.out)
        clear hg2 hm hr hgw HM HRr HG
        by_cases hja : x < j
        · have hja' : decide (x < j) = true := decide_eq_true hja
          obtain ⟨yi, hyi⟩ : ∃ yi, j - 1 = yi := ⟨_, rfl⟩
          have hcx' : ∃ cx, t1[j]? = some cx := ⟨_, List.getElem?_eq_getElem (by have := HL1.out; omega)⟩
          have hcy' : ∃ cy, t1[yi]? = some cy := ⟨_, List.getElem?_eq_getElem (by have := HL1.out; omega)⟩
          obtain ⟨cx, hcx⟩ := hcx'
          obtain ⟨cy, hcy⟩ := hcy'
          have HCX := Lib.hid hcx
          have HCY := Lib.hid hcy
          have sy : (j : Int) - 1 = (yi : Int) := by omega
          have HXY := Lib.hid (show j ≠ yi by omega)
          have HXI := Lib.hid (show j < n by omega)
          have HYI := Lib.hid (show yi < n by omega)
          have bx : (j : Int) < (n : Int) := by omega
          have by' : (yi : Int) < (n : Int) := by omega
          have HYJ := Lib.hid hyi
          obtain ⟨z, hz⟩ := cmp_grown (HC.out.grown HG1.out) cx cy ((HOK.out.mem HM1.out) _ (List.mem_of_getElem? hcx)) ((HOK.out.mem HM1.out) _ (List.mem_of_getElem? hcy))
          have HZ := Lib.hid hz
          have u0 := cell_regrown (HR1.out.cell hcx (f := 0) (by decide) rfl)
          have u1 := cell_regrown (HR1.out.cell hcx (f := 1) (by decide) rfl)
          have u2 := cell_regrown (HR1.out.cell hcx (f := 2) (by decide) rfl)
          have u3 := cell_regrown (HR1.out.cell hcx (f := 3) (by decide) rfl)
          have v0 := cell_regrown (HR1.out.cell hcy (f := 0) (by decide) rfl)
          have v1 := cell_regrown (HR1.out.cell hcy (f := 1) (by decide) rfl)
          have v2 := cell_regrown (HR1.out.cell hcy (f := 2) (by decide) rfl)
          have v3 := cell_regrown (HR1.out.cell hcy (f := 3) (by decide) rfl)
          rw [Nat.add_zero] at u0 v0
          clear hcx hcy hyi hz
          go_wp2_with fail
          refine wp_region_quiet_below (by kernel_rfl) (by kernel_rfl) ?_
          repeat (go_big_quiet_step (exact HZ.out _ _))
          refine wpQuiet_nil ?_
          intro _ hw'
          obtain ⟨⟨dq, osq⟩, hw''⟩ := hw'
          subst hw''
          have hbq := below_regrown wr dq osq
          have hr1' := HR1.out.below hbq
          have HG2 := Lib.hid (HG1.out.trans (grown_some (row := some b) hbq))
          clear u0 u1 u2 u3 v0 v1 v2 v3 HZ hja' HR1
          have HR1 := Lib.hid hr1'
          clear hbq hr1'
          generalize grow (redrawn wr dq) osq = w4 at *
          by_cases hz0 : z < 0
          · have hz1 : decide (z < 0) = true := decide_eq_true hz0
            rw [hz1]
            clear hz0 hz1
            go_upto_region 6 with (fail)
            have hr2 := HR1.out.set j (by have := HL1.out; have := HXI.out; omega) cy
            have HR2 := Lib.hid hr2
            have hcy2 : (t1.set j cy)[yi]? = some cy := by rw [List.getElem?_set_ne HXY.out]; exact HCY.out
            obtain ⟨_, cur, hcur, _⟩ := HR1.out.block
            obtain ⟨_, cur2, hcur2, _⟩ := hr2.block
            have HR3 := Lib.hid (hr2.set yi (by rw [List.length_set]; have := HL1.out; have := HYI.out; omega) cx)
            have x0 := HR1.out.cell HCX.out (f := 0) (by decide) rfl
            have x1 := HR1.out.cell HCX.out (f := 1) (by decide) rfl
            have x2 := HR1.out.cell HCX.out (f := 2) (by decide) rfl
            have x3 := HR1.out.cell HCX.out (f := 3) (by decide) rfl
            have y0 := HR1.out.cell HCY.out (f := 0) (by decide) rfl
            have y1 := HR1.out.cell HCY.out (f := 1) (by decide) rfl
            have y2 := HR1.out.cell HCY.out (f := 2) (by decide) rfl
            have y3 := HR1.out.cell HCY.out (f := 3) (by decide) rfl
            rw [Nat.add_zero] at x0 y0
            have fx0 := frozen_of_row w4 b (j * 4) _ _ hcur
            have fx1 := frozen_of_row w4 b (j * 4 + 1) _ _ hcur
            have fx2 := frozen_of_row w4 b (j * 4 + 2) _ _ hcur
            have fx3 := frozen_of_row w4 b (j * 4 + 3) _ _ hcur
            have gy0 : ((((w4.setCell ⟨b, j * 4, none⟩ (.int .u16 cy.r)).setCell ⟨b, j * 4 + 1, none⟩ (.int .u16 cy.g)).setCell ⟨b, j * 4 + 2, none⟩ (.int .u16 cy.b)).setCell ⟨b, j * 4 + 3, none⟩ (.int .u16 cy.a)).cell? ⟨b, yi * 4, none⟩ = some (.int .u16 cy.r) := HR2.out.cell hcy2 (f := 0) (by decide) rfl
            have gf0 : ((((w4.setCell ⟨b, j * 4, none⟩ (.int .u16 cy.r)).setCell ⟨b, j * 4 + 1, none⟩ (.int .u16 cy.g)).setCell ⟨b, j * 4 + 2, none⟩ (.int .u16 cy.b)).setCell ⟨b, j * 4 + 3, none⟩ (.int .u16 cy.a)).frozen? ⟨b, yi * 4, none⟩ = false := frozen_of_row _ b (yi * 4) _ _ hcur2
            have gy1 : ((((w4.setCell ⟨b, j * 4, none⟩ (.int .u16 cy.r)).setCell ⟨b, j * 4 + 1, none⟩ (.int .u16 cy.g)).setCell ⟨b, j * 4 + 2, none⟩ (.int .u16 cy.b)).setCell ⟨b, j * 4 + 3, none⟩ (.int .u16 cy.a)).cell? ⟨b, yi * 4 + 1, none⟩ = some (.int .u16 cy.g) := HR2.out.cell hcy2 (f := 1) (by decide) rfl
            have gf1 : ((((w4.setCell ⟨b, j * 4, none⟩ (.int .u16 cy.r)).setCell ⟨b, j * 4 + 1, none⟩ (.int .u16 cy.g)).setCell ⟨b, j * 4 + 2, none⟩ (.int .u16 cy.b)).setCell ⟨b, j * 4 + 3, none⟩ (.int .u16 cy.a)).frozen? ⟨b, yi * 4 + 1, none⟩ = false := frozen_of_row _ b (yi * 4 + 1) _ _ hcur2
            have gy2 : ((((w4.setCell ⟨b, j * 4, none⟩ (.int .u16 cy.r)).setCell ⟨b, j * 4 + 1, none⟩ (.int .u16 cy.g)).setCell ⟨b, j * 4 + 2, none⟩ (.int .u16 cy.b)).setCell ⟨b, j * 4 + 3, none⟩ (.int .u16 cy.a)).cell? ⟨b, yi * 4 + 2, none⟩ = some (.int .u16 cy.b) := HR2.out.cell hcy2 (f := 2) (by decide) rfl
            have gf2 : ((((w4.setCell ⟨b, j * 4, none⟩ (.int .u16 cy.r)).setCell ⟨b, j * 4 + 1, none⟩ (.int .u16 cy.g)).setCell ⟨b, j * 4 + 2, none⟩ (.int .u16 cy.b)).setCell ⟨b, j * 4 + 3, none⟩ (.int .u16 cy.a)).frozen? ⟨b, yi * 4 + 2, none⟩ = false := frozen_of_row _ b (yi * 4 + 2) _ _ hcur2
            have gy3 : ((((w4.setCell ⟨b, j * 4, none⟩ (.int .u16 cy.r)).setCell ⟨b, j * 4 + 1, none⟩ (.int .u16 cy.g)).setCell ⟨b, j * 4 + 2, none⟩ (.int .u16 cy.b)).setCell ⟨b, j * 4 + 3, none⟩ (.int .u16 cy.a)).cell? ⟨b, yi * 4 + 3, none⟩ = some (.int .u16 cy.a) := HR2.out.cell hcy2 (f := 3) (by decide) rfl
            have gf3 : ((((w4.setCell ⟨b, j * 4, none⟩ (.int .u16 cy.r)).setCell ⟨b, j * 4 + 1, none⟩ (.int .u16 cy.g)).setCell ⟨b, j * 4 + 2, none⟩ (.int .u16 cy.b)).setCell ⟨b, j * 4 + 3, none⟩ (.int .u16 cy.a)).frozen? ⟨b, yi * 4 + 3, none⟩ = false := frozen_of_row _ b (yi * 4 + 3) _ _ hcur2
            clear hr2 hcur hcur2 hcy2
            go_region
            go_wp2_with fail
            go_roundg yi
            case measure => have := Hg2.out; have := HYJ.out; omega
            case rel =>
              have e : ((((((((w4.setCell ⟨b, j * 4, none⟩ (.int .u16 cy.r)).setCell ⟨b, j * 4 + 1, none⟩ (.int .u16 cy.g)).setCell ⟨b, j * 4 + 2, none⟩ (.int .u16 cy.b)).setCell ⟨b, j * 4 + 3, none⟩ (.int .u16 cy.a)).setCell ⟨b, yi * 4, none⟩ (.int .u16 cx.r)).setCell ⟨b, yi * 4 + 1, none⟩ (.int .u16 cx.g)).setCell ⟨b, yi * 4 + 2, none⟩ (.int .u16 cx.b)).setCell ⟨b, yi * 4 + 3, none⟩ (.int .u16 cx.a)) = (w4.setCells b (j * 4) cy.cells).setCells b (yi * 4) cx.cells := by
                simp only [C4.cells, World.setCells, Nat.add_assoc, Nat.reduceAdd]
              have hg4 := (grownBy_setCells b cy.cells (j * 4) w4).trans (grownBy_setCells b cx.cells (yi * 4) _)
              have hr5 := HR3.out
              rw [e]
              generalize (w4.setCells b (j * 4) cy.cells).setCells b (yi * 4) cx.cells = w5 at *
              exact ⟨yi, (t1.set j cy).set yi cx, by have := HYJ.out; omega, by have := HYJ.out; omega, rfl, by rw [← sy], HM1.out.trans (mem_swap (List.mem_of_getElem? HCX.out) (List.mem_of_getElem? HCY.out)), hr5.below (Below.drew (Below.refl _ _)), HG2.out.trans (hg4.trans (grown_some (Below.drew (Below.refl _ _))))⟩
          · have hz1 : decide (z < 0) = false := decide_eq_false hz0
            rw [hz1]
            clear hz0 hz1
            go_wp2_with fail
            go_roundg (y + 1 - (i + 1))
            case measure => have := Hg.out; omega
            case rel => exact ⟨i + 1, t1, by omega, by omega, rfl, by go_num, HM1.out, HR1.out, HG2.out⟩
        · have hja' : decide (x < j) = false := decide_eq_false hja
          go_wp2_with fail
          refine wp_region_quiet_below (by kernel_rfl) (by kernel_rfl) ?_
          repeat (go_big_quiet_step (fail))
          refine wpQuiet_nil ?_
          intro _ hw'
          obtain ⟨⟨dq, osq⟩, hw''⟩ := hw'
          subst hw''
          have hbq := below_regrown wr dq osq
          have HR2 := Lib.hid (HR1.out.below hbq)
          have HG2 := Lib.hid (HG1.out.trans (grown_some (row := some b) hbq))
          clear hbq
          generalize grow (redrawn wr dq) osq = w4 at *
          go_wp2_with fail
          go_roundg (y + 1 - (i + 1))
          case measure => have := Hg.out; omega
          case rel => exact ⟨i + 1, t1, by omega, by omega, rfl, by go_num, HM1.out, HR2.out, HG2.out⟩
    · have hlt' : ¬ (i : Int) < (y : Int) := by omega
      go_wp2_with fail
      refine bodyPost_end (results_none rfl _ _ _) rfl ?_
      exact ⟨rfl, t1, HM.out, HRr.out, HG.out⟩
end Go.Proofs.YtioeifbobhdccaaGreatDoor
