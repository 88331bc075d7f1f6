/- Sorting colours: merging. -/
import Derived.Test.YtioeifbobhdccaaGreatDoorM23
namespace Go.Proofs.YtioeifbobhdccaaGreatDoor
open Go.RowKit Go.Sort
theorem mid_facts (i j : Nat) (h : i + j ≤ 4398046511104) : ∃ q : Nat, q = (i + j) / 2 ∧ ((i : Int) + (j : Int)) / 2 = (q : Int) ∧ ((i : Int) + (j : Int)) % 18446744073709551616 = (i : Int) + (j : Int) ∧ IntKind.i64.wrap (q : Int) = (q : Int) := by
  refine ⟨(i + j) / 2, rfl, by omega, by omega, IntWalk.i64_in _ (by omega)⟩
set_option maxRecDepth 100000 in
set_option maxHeartbeats 3200000 in
theorem symMerge_one (base b cap kb k : Nat) (t : List C4) (x m y : Nat) (w : World) (h : RowC base w b cap t) (hc : CmpAt w b kb k) (hok : okAll t) (hxm : x < m) (hmy : m < y) (hy : y ≤ t.length) (hl : t.length ≤ 1099511627776) (hone : m - x = 1) :
    Calls Tryz.prog 106 #[.slice (some ⟨b, 0, none⟩) t.length cap, .int .i64 x, .int .i64 m, .int .i64 y, .func (.func 56) #[] #[.pointer (some ⟨kb, 0, none⟩)]] w (SortPost base b cap t w) := by
    have HR := Lib.hid h
    have HC := Lib.hid hc
    have HOK := Lib.hid hok
    obtain ⟨n, hn⟩ : ∃ n, t.length = n := ⟨_, rfl⟩
    rw [hn] at hy hl ⊢
    have HN := Lib.hid hn
    clear h hc hok hn
    have hxm' : (x : Int) < (m : Int) := by omega
    have hmy' : (m : Int) < (y : Int) := by omega
    have hone' : ((m : Int) - (x : Int) == 1) = true := by simp; omega
    have HONE := Lib.hid hone
    clear hone
    go_enter Tryz.func106, Tryz.ntmps106
    go_wp2_with fail
    go_loopg [10, 11] (y - m) (fun gk s10 s11 wr => ∃ (i j : Nat), gk = j - i ∧ s10 = .int .i64 i ∧ s11 = .int .i64 j ∧ m ≤ i ∧ i ≤ j ∧ j ≤ y ∧ RowC base wr b cap t ∧ w.grownBy wr (some b))
    case atStart => exact ⟨m, y, rfl, rfl, rfl, Nat.le_refl _, by omega, Nat.le_refl _, HR.out, World.grownBy.refl _ _⟩
    case round =>
      obtain ⟨i, j, hg, rfl, rfl, hi1, hi2, hi3, hr, hgw⟩ := hrel
      have Hg := Lib.hid hg
      have HR1 := Lib.hid hr
      have HG1 := Lib.hid hgw
      clear hg hr hgw
      have HM1 : Hid (Mem t t) := Lib.hid (Mem.refl t)
      have HL1 := HN
      by_cases hij : i < j
      · have hij' : decide (i < j) = true := decide_eq_true hij
        obtain ⟨q, hq, q1, q2, q3⟩ := mid_facts i j (by omega)
        have hqj : q < j := by omega
        have hqi : i ≤ q := by omega
        clear hq
        have hcx' : ∃ cx, t[q]? = some cx := ⟨_, List.getElem?_eq_getElem (by have := HL1.out; omega)⟩
        have hcy' : ∃ cy, t[x]? = some cy := ⟨_, List.getElem?_eq_getElem (by have := HL1.out; omega)⟩
        obtain ⟨cx, hcx⟩ := hcx'
        obtain ⟨cy, hcy⟩ := hcy'
        have HCX := Lib.hid hcx
        have HCY := Lib.hid hcy
        have bx : (q : Int) < (n : Int) := by omega
        have by' : (x : Int) < (n : Int) := by omega
        obtain ⟨z, hz⟩ := cmp_grown (HC.out.grown HG1.out) cx cy ((HOK.out.mem HM1.out) _ (List.mem_of_getElem? hcx)) ((HOK.out.mem HM1.out) _ (List.mem_of_getElem? hcy))
        have HZ := Lib.hid hz
        have u0 := cell_regrown (HR1.out.cell hcx (f := 0) (by decide) rfl)
        have u1 := cell_regrown (HR1.out.cell hcx (f := 1) (by decide) rfl)
        have u2 := cell_regrown (HR1.out.cell hcx (f := 2) (by decide) rfl)
        have u3 := cell_regrown (HR1.out.cell hcx (f := 3) (by decide) rfl)
        have v0 := cell_regrown (HR1.out.cell hcy (f := 0) (by decide) rfl)
        have v1 := cell_regrown (HR1.out.cell hcy (f := 1) (by decide) rfl)
        have v2 := cell_regrown (HR1.out.cell hcy (f := 2) (by decide) rfl)
        have v3 := cell_regrown (HR1.out.cell hcy (f := 3) (by decide) rfl)
        rw [Nat.add_zero] at u0 v0
        clear hcx hcy hz
        go_wp2_with fail
        refine wp_region_quiet_below (by kernel_rfl) (by kernel_rfl) ?_
        repeat (go_big_quiet_step (exact HZ.out _ _))
        refine wpQuiet_nil ?_
        intro _ hw'
        obtain ⟨⟨dq, osq⟩, hw''⟩ := hw'
        subst hw''
        have hbq := below_regrown wr dq osq
        have HR2 := Lib.hid (HR1.out.below hbq)
        have HG2 := Lib.hid (HG1.out.trans (grown_some (row := some b) hbq))
        clear u0 u1 u2 u3 v0 v1 v2 v3 HZ hbq
        generalize grow (redrawn wr dq) osq = w4 at *
        by_cases hz0 : z < 0
        · have hz1 : decide (z < 0) = true := decide_eq_true hz0
          rw [hz1]
          clear hz0 hz1
          go_wp2_with fail
          go_roundg (j - (q + 1))
          case measure => have := Hg.out; omega
          case rel => exact ⟨q + 1, j, rfl, by go_num, rfl, by omega, by omega, by omega, HR2.out, HG2.out⟩
        · have hz1 : decide (z < 0) = false := decide_eq_false hz0
          rw [hz1]
          clear hz0 hz1
          go_wp2_with fail
          go_roundg (q - i)
          case measure => have := Hg.out; omega
          case rel => exact ⟨i, q, rfl, rfl, rfl, by omega, by omega, by omega, HR2.out, HG2.out⟩
      · have hij' : decide (i < j) = false := decide_eq_false hij
        obtain rfl : i = j := by omega
        clear hij hij'
        obtain ⟨i1, hi1e⟩ : ∃ i1, i - 1 = i1 := ⟨_, rfl⟩
        have si : (i : Int) - 1 = (i1 : Int) := by omega
        have hi1n : i1 < n := by omega
        have hi1x : x ≤ i1 := by omega
        clear hi1e
        go_wp2_with fail
        go_loopg [13] (i1 - x) (fun gk s13 wr => ∃ (kk : Nat) (t1 : List C4), x ≤ kk ∧ kk ≤ i1 ∧ gk = i1 - kk ∧ s13 = .int .i64 kk ∧ Mem t t1 ∧ RowC base wr b cap t1 ∧ w.grownBy wr (some b))
        case atStart => exact ⟨x, t, Nat.le_refl _, hi1x, rfl, rfl, Mem.refl _, HR1.out, HG1.out⟩
        case round =>
          obtain ⟨kk, t1, hk1, hk2, hg, rfl, hm, hr, hgw⟩ := hrel
          have Hg2 := Lib.hid hg
          clear HM1 HL1 HR1 HG1 Hg
          have HM1 := Lib.hid hm
          have HR1 := Lib.hid hr
          have HG1 := Lib.hid hgw
          have HL1 := Lib.hid (hm.1.trans HN.out)
          clear hg hm hr hgw
          by_cases hlt : kk < i1
          · have hlt' : decide (kk < i1) = true := decide_eq_true hlt
            obtain ⟨yi, hyi⟩ : ∃ yi, kk + 1 = yi := ⟨_, rfl⟩
            have sy : (kk : Int) + 1 = (yi : Int) := by omega
            have HYI' := Lib.hid hyi
            have bx : (kk : Int) < (n : Int) := by omega
            have by' : (yi : Int) < (n : Int) := by omega
            obtain ⟨cx, hcx⟩ : ∃ cx, t1[kk]? = some cx := ⟨_, List.getElem?_eq_getElem (by have := HL1.out; omega)⟩
            obtain ⟨cy, hcy⟩ : ∃ cy, t1[yi]? = some cy := ⟨_, List.getElem?_eq_getElem (by have := HL1.out; omega)⟩
            have HCX := Lib.hid hcx
            have HCY := Lib.hid hcy
            have HXY := Lib.hid (show kk ≠ yi by omega)
            have HXI := Lib.hid (show kk < n by omega)
            have HYI := Lib.hid (show yi < n by omega)
            clear hcx hcy hyi
            go_upto_region 11 with (fail)
            have hr2 := HR1.out.set kk (by have := HL1.out; have := HXI.out; omega) cy
            have HR2 := Lib.hid hr2
            have hcy2 : (t1.set kk cy)[yi]? = some cy := by rw [List.getElem?_set_ne HXY.out]; exact HCY.out
            obtain ⟨_, cur, hcur, _⟩ := HR1.out.block
            obtain ⟨_, cur2, hcur2, _⟩ := hr2.block
            have HR3 := Lib.hid (hr2.set yi (by rw [List.length_set]; have := HL1.out; have := HYI.out; omega) cx)
            have x0 := HR1.out.cell HCX.out (f := 0) (by decide) rfl
            have x1 := HR1.out.cell HCX.out (f := 1) (by decide) rfl
            have x2 := HR1.out.cell HCX.out (f := 2) (by decide) rfl
            have x3 := HR1.out.cell HCX.out (f := 3) (by decide) rfl
            have y0 := HR1.out.cell HCY.out (f := 0) (by decide) rfl
            have y1 := HR1.out.cell HCY.out (f := 1) (by decide) rfl
            have y2 := HR1.out.cell HCY.out (f := 2) (by decide) rfl
            have y3 := HR1.out.cell HCY.out (f := 3) (by decide) rfl
            rw [Nat.add_zero] at x0 y0
            have fx0 := frozen_of_row wr b (kk * 4) _ _ hcur
            have fx1 := frozen_of_row wr b (kk * 4 + 1) _ _ hcur
            have fx2 := frozen_of_row wr b (kk * 4 + 2) _ _ hcur
            have fx3 := frozen_of_row wr b (kk * 4 + 3) _ _ hcur
            have gy0 : ((((wr.setCell ⟨b, kk * 4, none⟩ (.int .u16 cy.r)).setCell ⟨b, kk * 4 + 1, none⟩ (.int .u16 cy.g)).setCell ⟨b, kk * 4 + 2, none⟩ (.int .u16 cy.b)).setCell ⟨b, kk * 4 + 3, none⟩ (.int .u16 cy.a)).cell? ⟨b, yi * 4, none⟩ = some (.int .u16 cy.r) := HR2.out.cell hcy2 (f := 0) (by decide) rfl
            have gf0 : ((((wr.setCell ⟨b, kk * 4, none⟩ (.int .u16 cy.r)).setCell ⟨b, kk * 4 + 1, none⟩ (.int .u16 cy.g)).setCell ⟨b, kk * 4 + 2, none⟩ (.int .u16 cy.b)).setCell ⟨b, kk * 4 + 3, none⟩ (.int .u16 cy.a)).frozen? ⟨b, yi * 4, none⟩ = false := frozen_of_row _ b (yi * 4) _ _ hcur2
            have gy1 : ((((wr.setCell ⟨b, kk * 4, none⟩ (.int .u16 cy.r)).setCell ⟨b, kk * 4 + 1, none⟩ (.int .u16 cy.g)).setCell ⟨b, kk * 4 + 2, none⟩ (.int .u16 cy.b)).setCell ⟨b, kk * 4 + 3, none⟩ (.int .u16 cy.a)).cell? ⟨b, yi * 4 + 1, none⟩ = some (.int .u16 cy.g) := HR2.out.cell hcy2 (f := 1) (by decide) rfl
            have gf1 : ((((wr.setCell ⟨b, kk * 4, none⟩ (.int .u16 cy.r)).setCell ⟨b, kk * 4 + 1, none⟩ (.int .u16 cy.g)).setCell ⟨b, kk * 4 + 2, none⟩ (.int .u16 cy.b)).setCell ⟨b, kk * 4 + 3, none⟩ (.int .u16 cy.a)).frozen? ⟨b, yi * 4 + 1, none⟩ = false := frozen_of_row _ b (yi * 4 + 1) _ _ hcur2
            have gy2 : ((((wr.setCell ⟨b, kk * 4, none⟩ (.int .u16 cy.r)).setCell ⟨b, kk * 4 + 1, none⟩ (.int .u16 cy.g)).setCell ⟨b, kk * 4 + 2, none⟩ (.int .u16 cy.b)).setCell ⟨b, kk * 4 + 3, none⟩ (.int .u16 cy.a)).cell? ⟨b, yi * 4 + 2, none⟩ = some (.int .u16 cy.b) := HR2.out.cell hcy2 (f := 2) (by decide) rfl
            have gf2 : ((((wr.setCell ⟨b, kk * 4, none⟩ (.int .u16 cy.r)).setCell ⟨b, kk * 4 + 1, none⟩ (.int .u16 cy.g)).setCell ⟨b, kk * 4 + 2, none⟩ (.int .u16 cy.b)).setCell ⟨b, kk * 4 + 3, none⟩ (.int .u16 cy.a)).frozen? ⟨b, yi * 4 + 2, none⟩ = false := frozen_of_row _ b (yi * 4 + 2) _ _ hcur2
            have gy3 : ((((wr.setCell ⟨b, kk * 4, none⟩ (.int .u16 cy.r)).setCell ⟨b, kk * 4 + 1, none⟩ (.int .u16 cy.g)).setCell ⟨b, kk * 4 + 2, none⟩ (.int .u16 cy.b)).setCell ⟨b, kk * 4 + 3, none⟩ (.int .u16 cy.a)).cell? ⟨b, yi * 4 + 3, none⟩ = some (.int .u16 cy.a) := HR2.out.cell hcy2 (f := 3) (by decide) rfl
            have gf3 : ((((wr.setCell ⟨b, kk * 4, none⟩ (.int .u16 cy.r)).setCell ⟨b, kk * 4 + 1, none⟩ (.int .u16 cy.g)).setCell ⟨b, kk * 4 + 2, none⟩ (.int .u16 cy.b)).setCell ⟨b, kk * 4 + 3, none⟩ (.int .u16 cy.a)).frozen? ⟨b, yi * 4 + 3, none⟩ = false := frozen_of_row _ b (yi * 4 + 3) _ _ hcur2
            clear hr2 hcur hcur2 hcy2
            go_region
            go_wp2_with fail
            go_roundg (i1 - yi)
            case measure => have := Hg2.out; have := HYI'.out; omega
            case rel =>
              have e : ((((((((wr.setCell ⟨b, kk * 4, none⟩ (.int .u16 cy.r)).setCell ⟨b, kk * 4 + 1, none⟩ (.int .u16 cy.g)).setCell ⟨b, kk * 4 + 2, none⟩ (.int .u16 cy.b)).setCell ⟨b, kk * 4 + 3, none⟩ (.int .u16 cy.a)).setCell ⟨b, yi * 4, none⟩ (.int .u16 cx.r)).setCell ⟨b, yi * 4 + 1, none⟩ (.int .u16 cx.g)).setCell ⟨b, yi * 4 + 2, none⟩ (.int .u16 cx.b)).setCell ⟨b, yi * 4 + 3, none⟩ (.int .u16 cx.a)) = (wr.setCells b (kk * 4) cy.cells).setCells b (yi * 4) cx.cells := by
                simp only [C4.cells, World.setCells, Nat.add_assoc, Nat.reduceAdd]
              have hg4 := (grownBy_setCells b cy.cells (kk * 4) wr).trans (grownBy_setCells b cx.cells (yi * 4) _)
              have hr5 := HR3.out
              rw [e]
              generalize (wr.setCells b (kk * 4) cy.cells).setCells b (yi * 4) cx.cells = w5 at *
              exact ⟨yi, (t1.set kk cy).set yi cx, by have := HYI'.out; omega, by have := HYI'.out; omega, rfl, by rw [← sy], HM1.out.trans (mem_swap (List.mem_of_getElem? HCX.out) (List.mem_of_getElem? HCY.out)), hr5.below (Below.drew (Below.refl _ _)), HG1.out.trans (hg4.trans (grown_some (Below.drew (Below.refl _ _))))⟩
          · have hlt' : decide (kk < i1) = false := decide_eq_false hlt
            go_wp2_with fail
            refine bodyPost_end (results_none rfl _ _ _) rfl ?_
            exact ⟨rfl, t1, HM1.out, HR1.out, HG1.out⟩
set_option maxRecDepth 100000 in
set_option maxHeartbeats 3200000 in
theorem symMerge_two (base b cap kb k : Nat) (t : List C4) (x m y : Nat) (w : World) (h : RowC base w b cap t) (hc : CmpAt w b kb k) (hok : okAll t) (hxm : x < m) (hmy : m < y) (hy : y ≤ t.length) (hl : t.length ≤ 1099511627776) (hone : ¬ m - x = 1) (htwo : y - m = 1) :
    Calls Tryz.prog 106 #[.slice (some ⟨b, 0, none⟩) t.length cap, .int .i64 x, .int .i64 m, .int .i64 y, .func (.func 56) #[] #[.pointer (some ⟨kb, 0, none⟩)]] w (SortPost base b cap t w) := by
    have HR := Lib.hid h
    have HC := Lib.hid hc
    have HOK := Lib.hid hok
    obtain ⟨n, hn⟩ : ∃ n, t.length = n := ⟨_, rfl⟩
    rw [hn] at hy hl ⊢
    have HN := Lib.hid hn
    clear h hc hok hn
    have hxm' : (x : Int) < (m : Int) := by omega
    have hmy' : (m : Int) < (y : Int) := by omega
    have hone' : ((m : Int) - (x : Int) == 1) = false := by simp; omega
    have htwo' : ((y : Int) - (m : Int) == 1) = true := by simp; omega
    clear hone htwo
    go_enter Tryz.func106, Tryz.ntmps106
    go_wp2_with fail
    go_loopg [14, 15] (m - x) (fun gk s10 s11 wr => ∃ (i j : Nat), gk = j - i ∧ s10 = .int .i64 i ∧ s11 = .int .i64 j ∧ x ≤ i ∧ i ≤ j ∧ j ≤ m ∧ RowC base wr b cap t ∧ w.grownBy wr (some b))
    case atStart => exact ⟨x, m, rfl, rfl, rfl, Nat.le_refl _, by omega, Nat.le_refl _, HR.out, World.grownBy.refl _ _⟩
    case round =>
      obtain ⟨i, j, hg, rfl, rfl, hi1, hi2, hi3, hr, hgw⟩ := hrel
      have Hg := Lib.hid hg
      have HR1 := Lib.hid hr
      have HG1 := Lib.hid hgw
      clear hg hr hgw
      have HM1 : Hid (Mem t t) := Lib.hid (Mem.refl t)
      have HL1 := HN
      by_cases hij : i < j
      · have hij' : decide (i < j) = true := decide_eq_true hij
        obtain ⟨q, hq, q1, q2, q3⟩ := mid_facts i j (by omega)
        have hqj : q < j := by omega
        have hqi : i ≤ q := by omega
        clear hq
        have hcx' : ∃ cx, t[m]? = some cx := ⟨_, List.getElem?_eq_getElem (by have := HL1.out; omega)⟩
        have hcy' : ∃ cy, t[q]? = some cy := ⟨_, List.getElem?_eq_getElem (by have := HL1.out; omega)⟩
        obtain ⟨cx, hcx⟩ := hcx'
        obtain ⟨cy, hcy⟩ := hcy'
        have HCX := Lib.hid hcx
        have HCY := Lib.hid hcy
        have bx : (m : Int) < (n : Int) := by omega
        have by' : (q : Int) < (n : Int) := by omega
        obtain ⟨z, hz⟩ := cmp_grown (HC.out.grown HG1.out) cx cy ((HOK.out.mem HM1.out) _ (List.mem_of_getElem? hcx)) ((HOK.out.mem HM1.out) _ (List.mem_of_getElem? hcy))
        have HZ := Lib.hid hz
        have u0 := cell_regrown (HR1.out.cell hcx (f := 0) (by decide) rfl)
        have u1 := cell_regrown (HR1.out.cell hcx (f := 1) (by decide) rfl)
        have u2 := cell_regrown (HR1.out.cell hcx (f := 2) (by decide) rfl)
        have u3 := cell_regrown (HR1.out.cell hcx (f := 3) (by decide) rfl)
        have v0 := cell_regrown (HR1.out.cell hcy (f := 0) (by decide) rfl)
        have v1 := cell_regrown (HR1.out.cell hcy (f := 1) (by decide) rfl)
        have v2 := cell_regrown (HR1.out.cell hcy (f := 2) (by decide) rfl)
        have v3 := cell_regrown (HR1.out.cell hcy (f := 3) (by decide) rfl)
        rw [Nat.add_zero] at u0 v0
        clear hcx hcy hz
        go_wp2_with fail
        refine wp_region_quiet_below (by kernel_rfl) (by kernel_rfl) ?_
        repeat (go_big_quiet_step (exact HZ.out _ _))
        refine wpQuiet_nil ?_
        intro _ hw'
        obtain ⟨⟨dq, osq⟩, hw''⟩ := hw'
        subst hw''
        have hbq := below_regrown wr dq osq
        have HR2 := Lib.hid (HR1.out.below hbq)
        have HG2 := Lib.hid (HG1.out.trans (grown_some (row := some b) hbq))
        clear u0 u1 u2 u3 v0 v1 v2 v3 HZ hbq
        generalize grow (redrawn wr dq) osq = w4 at *
        by_cases hz0 : z < 0
        · have hz1 : decide (z < 0) = true := decide_eq_true hz0
          rw [hz1]
          clear hz0 hz1
          go_wp2_with fail
          go_roundg (q - i)
          case measure => have := Hg.out; omega
          case rel => exact ⟨i, q, rfl, rfl, rfl, by omega, by omega, by omega, HR2.out, HG2.out⟩
        · have hz1 : decide (z < 0) = false := decide_eq_false hz0
          rw [hz1]
          clear hz0 hz1
          go_wp2_with fail
          go_roundg (j - (q + 1))
          case measure => have := Hg.out; omega
          case rel => exact ⟨q + 1, j, rfl, by go_num, rfl, by omega, by omega, by omega, HR2.out, HG2.out⟩
      · have hij' : decide (i < j) = false := decide_eq_false hij
        obtain rfl : i = j := by omega
        clear hij hij'
        go_wp2_with fail
        go_loopg [17] (m - i) (fun gk s17 wr => ∃ (kk : Nat) (t1 : List C4), i ≤ kk ∧ kk ≤ m ∧ gk = kk - i ∧ s17 = .int .i64 kk ∧ Mem t t1 ∧ RowC base wr b cap t1 ∧ w.grownBy wr (some b))
        case atStart => exact ⟨m, t, by omega, Nat.le_refl _, rfl, rfl, Mem.refl _, HR1.out, HG1.out⟩
        case round =>
          obtain ⟨kk, t1, hk1, hk2, hg, rfl, hm, hr, hgw⟩ := hrel
          have Hg2 := Lib.hid hg
          clear HM1 HL1 HR1 HG1 Hg
          have HM1 := Lib.hid hm
          have HR1 := Lib.hid hr
          have HG1 := Lib.hid hgw
          have HL1 := Lib.hid (hm.1.trans HN.out)
          clear hg hm hr hgw
          by_cases hlt : i < kk
          · have hlt' : decide (i < kk) = true := decide_eq_true hlt
            obtain ⟨yi, hyi⟩ : ∃ yi, kk - 1 = yi := ⟨_, rfl⟩
            have sy : (kk : Int) - 1 = (yi : Int) := by omega
            have HYI' := Lib.hid hyi
            have bx : (kk : Int) < (n : Int) := by omega
            have by' : (yi : Int) < (n : Int) := by omega
            obtain ⟨cx, hcx⟩ : ∃ cx, t1[kk]? = some cx := ⟨_, List.getElem?_eq_getElem (by have := HL1.out; omega)⟩
            obtain ⟨cy, hcy⟩ : ∃ cy, t1[yi]? = some cy := ⟨_, List.getElem?_eq_getElem (by have := HL1.out; omega)⟩
            have HCX := Lib.hid hcx
            have HCY := Lib.hid hcy
            have HXY := Lib.hid (show kk ≠ yi by omega)
            have HXI := Lib.hid (show kk < n by omega)
            have HYI := Lib.hid (show yi < n by omega)
            clear hcx hcy hyi
            go_upto_region 23 with (fail)
            have hr2 := HR1.out.set kk (by have := HL1.out; have := HXI.out; omega) cy
            have HR2 := Lib.hid hr2
            have hcy2 : (t1.set kk cy)[yi]? = some cy := by rw [List.getElem?_set_ne HXY.out]; exact HCY.out
            obtain ⟨_, cur, hcur, _⟩ := HR1.out.block
            obtain ⟨_, cur2, hcur2, _⟩ := hr2.block
            have HR3 := Lib.hid (hr2.set yi (by rw [List.length_set]; have := HL1.out; have := HYI.out; omega) cx)
            have x0 := HR1.out.cell HCX.out (f := 0) (by decide) rfl
            have x1 := HR1.out.cell HCX.out (f := 1) (by decide) rfl
            have x2 := HR1.out.cell HCX.out (f := 2) (by decide) rfl
            have x3 := HR1.out.cell HCX.out (f := 3) (by decide) rfl
            have y0 := HR1.out.cell HCY.out (f := 0) (by decide) rfl
            have y1 := HR1.out.cell HCY.out (f := 1) (by decide) rfl
            have y2 := HR1.out.cell HCY.out (f := 2) (by decide) rfl
            have y3 := HR1.out.cell HCY.out (f := 3) (by decide) rfl
            rw [Nat.add_zero] at x0 y0
            have fx0 := frozen_of_row wr b (kk * 4) _ _ hcur
            have fx1 := frozen_of_row wr b (kk * 4 + 1) _ _ hcur
            have fx2 := frozen_of_row wr b (kk * 4 + 2) _ _ hcur
            have fx3 := frozen_of_row wr b (kk * 4 + 3) _ _ hcur
            have gy0 : ((((wr.setCell ⟨b, kk * 4, none⟩ (.int .u16 cy.r)).setCell ⟨b, kk * 4 + 1, none⟩ (.int .u16 cy.g)).setCell ⟨b, kk * 4 + 2, none⟩ (.int .u16 cy.b)).setCell ⟨b, kk * 4 + 3, none⟩ (.int .u16 cy.a)).cell? ⟨b, yi * 4, none⟩ = some (.int .u16 cy.r) := HR2.out.cell hcy2 (f := 0) (by decide) rfl
            have gf0 : ((((wr.setCell ⟨b, kk * 4, none⟩ (.int .u16 cy.r)).setCell ⟨b, kk * 4 + 1, none⟩ (.int .u16 cy.g)).setCell ⟨b, kk * 4 + 2, none⟩ (.int .u16 cy.b)).setCell ⟨b, kk * 4 + 3, none⟩ (.int .u16 cy.a)).frozen? ⟨b, yi * 4, none⟩ = false := frozen_of_row _ b (yi * 4) _ _ hcur2
            have gy1 : ((((wr.setCell ⟨b, kk * 4, none⟩ (.int .u16 cy.r)).setCell ⟨b, kk * 4 + 1, none⟩ (.int .u16 cy.g)).setCell ⟨b, kk * 4 + 2, none⟩ (.int .u16 cy.b)).setCell ⟨b, kk * 4 + 3, none⟩ (.int .u16 cy.a)).cell? ⟨b, yi * 4 + 1, none⟩ = some (.int .u16 cy.g) := HR2.out.cell hcy2 (f := 1) (by decide) rfl
            have gf1 : ((((wr.setCell ⟨b, kk * 4, none⟩ (.int .u16 cy.r)).setCell ⟨b, kk * 4 + 1, none⟩ (.int .u16 cy.g)).setCell ⟨b, kk * 4 + 2, none⟩ (.int .u16 cy.b)).setCell ⟨b, kk * 4 + 3, none⟩ (.int .u16 cy.a)).frozen? ⟨b, yi * 4 + 1, none⟩ = false := frozen_of_row _ b (yi * 4 + 1) _ _ hcur2
            have gy2 : ((((wr.setCell ⟨b, kk * 4, none⟩ (.int .u16 cy.r)).setCell ⟨b, kk * 4 + 1, none⟩ (.int .u16 cy.g)).setCell ⟨b, kk * 4 + 2, none⟩ (.int .u16 cy.b)).setCell ⟨b, kk * 4 + 3, none⟩ (.int .u16 cy.a)).cell? ⟨b, yi * 4 + 2, none⟩ = some (.int .u16 cy.b) := HR2.out.cell hcy2 (f := 2) (by decide) rfl
            have gf2 : ((((wr.setCell ⟨b, kk * 4, none⟩ (.int .u16 cy.r)).setCell ⟨b, kk * 4 + 1, none⟩ (.int .u16 cy.g)).setCell ⟨b, kk * 4 + 2, none⟩ (.int .u16 cy.b)).setCell ⟨b, kk * 4 + 3, none⟩ (.int .u16 cy.a)).frozen? ⟨b, yi * 4 + 2, none⟩ = false := frozen_of_row _ b (yi * 4 + 2) _ _ hcur2
            have gy3 : ((((wr.setCell ⟨b, kk * 4, none⟩ (.int .u16 cy.r)).setCell ⟨b, kk * 4 + 1, none⟩ (.int .u16 cy.g)).setCell ⟨b, kk * 4 + 2, none⟩ (.int .u16 cy.b)).setCell ⟨b, kk * 4 + 3, none⟩ (.int .u16 cy.a)).cell? ⟨b, yi * 4 + 3, none⟩ = some (.int .u16 cy.a) := HR2.out.cell hcy2 (f := 3) (by decide) rfl
            have gf3 : ((((wr.setCell ⟨b, kk * 4, none⟩ (.int .u16 cy.r)).setCell ⟨b, kk * 4 + 1, none⟩ (.int .u16 cy.g)).setCell ⟨b, kk * 4 + 2, none⟩ (.int .u16 cy.b)).setCell ⟨b, kk * 4 + 3, none⟩ (.int .u16 cy.a)).frozen? ⟨b, yi * 4 + 3, none⟩ = false := frozen_of_row _ b (yi * 4 + 3) _ _ hcur2
            clear hr2 hcur hcur2 hcy2
            go_region
            go_wp2_with fail
            go_roundg (yi - i)
            case measure => have := Hg2.out; have := HYI'.out; omega
            case rel =>
              have e : ((((((((wr.setCell ⟨b, kk * 4, none⟩ (.int .u16 cy.r)).setCell ⟨b, kk * 4 + 1, none⟩ (.int .u16 cy.g)).setCell ⟨b, kk * 4 + 2, none⟩ (.int .u16 cy.b)).setCell ⟨b, kk * 4 + 3, none⟩ (.int .u16 cy.a)).setCell ⟨b, yi * 4, none⟩ (.int .u16 cx.r)).setCell ⟨b, yi * 4 + 1, none⟩ (.int .u16 cx.g)).setCell ⟨b, yi * 4 + 2, none⟩ (.int .u16 cx.b)).setCell ⟨b, yi * 4 + 3, none⟩ (.int .u16 cx.a)) = (wr.setCells b (kk * 4) cy.cells).setCells b (yi * 4) cx.cells := by
                simp only [C4.cells, World.setCells, Nat.add_assoc, Nat.reduceAdd]
              have hg4 := (grownBy_setCells b cy.cells (kk * 4) wr).trans (grownBy_setCells b cx.cells (yi * 4) _)
              have hr5 := HR3.out
              rw [e]
              generalize (wr.setCells b (kk * 4) cy.cells).setCells b (yi * 4) cx.cells = w5 at *
              exact ⟨yi, (t1.set kk cy).set yi cx, by have := HYI'.out; omega, by have := HYI'.out; omega, rfl, by rw [← sy], HM1.out.trans (mem_swap (List.mem_of_getElem? HCX.out) (List.mem_of_getElem? HCY.out)), hr5.below (Below.drew (Below.refl _ _)), HG1.out.trans (hg4.trans (grown_some (Below.drew (Below.refl _ _))))⟩
          · have hlt' : decide (i < kk) = false := decide_eq_false hlt
            go_wp2_with fail
            refine bodyPost_end (results_none rfl _ _ _) rfl ?_
            exact ⟨rfl, t1, HM1.out, HR1.out, HG1.out⟩
end Go.Proofs.YtioeifbobhdccaaGreatDoor
