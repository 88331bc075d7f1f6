/- Sorting colours: merging, the general case. -/
import Derived.Test.YtioeifbobhdccaaGreatDoorM25
import Derived.Test.YtioeifbobhdccaaGreatDoorM26
namespace Go.Proofs.YtioeifbobhdccaaGreatDoor
open Go.RowKit Go.Sort
set_option maxRecDepth 100000 in
set_option maxHeartbeats 16000000 in
theorem symMerge_lo (base b cap kb k : Nat) (t : List C4) (x m y : Nat) (w : World) (h : RowC base w b cap t) (hc : CmpAt w b kb k) (hok : okAll t) (hxm : x < m) (hmy : m < y) (hy : y ≤ t.length) (hl : t.length ≤ 1099511627776) (hone : ¬ m - x = 1) (htwo : ¬ y - m = 1) (ih : ∀ (t : List C4) (x' m' y' : Nat) (w : World), y' - x' < y - x → RowC base w b cap t → CmpAt w b kb k → okAll t → x' < m' → m' < y' → y' ≤ t.length → t.length ≤ 1099511627776 → Calls Tryz.prog 106 #[.slice (some ⟨b, 0, none⟩) t.length cap, .int .i64 x', .int .i64 m', .int .i64 y', .func (.func 56) #[] #[.pointer (some ⟨kb, 0, none⟩)]] w (SortPost base b cap t w)) (hcond : m ≤ (x + y) / 2) :
    Calls Tryz.prog 106 #[.slice (some ⟨b, 0, none⟩) t.length cap, .int .i64 x, .int .i64 m, .int .i64 y, .func (.func 56) #[] #[.pointer (some ⟨kb, 0, none⟩)]] w (SortPost base b cap t w) := by
    have IH := Lib.hid ih
    clear ih
    have HR := Lib.hid h
    have HC := Lib.hid hc
    have HOK := Lib.hid hok
    obtain ⟨n, hn⟩ : ∃ n, t.length = n := ⟨_, rfl⟩
    rw [hn] at hy hl ⊢
    have HN := Lib.hid hn
    clear h hc hok hn
    have hxm' : (x : Int) < (m : Int) := by omega
    have hmy' : (m : Int) < (y : Int) := by omega
    have hone' : ((m : Int) - (x : Int) == 1) = false := by simp; omega
    have htwo' : ((y : Int) - (m : Int) == 1) = false := by simp; omega
    clear hone htwo
    obtain ⟨mid, hmid, d1, d2, d3⟩ := mid_facts x y (by omega)
    obtain ⟨nn, hnn⟩ : ∃ nn, mid + m = nn := ⟨_, rfl⟩
    obtain ⟨pp, hpp⟩ : ∃ pp, nn - 1 = pp := ⟨_, rfl⟩
    have sn : (mid : Int) + (m : Int) = (nn : Int) := by omega
    have spp : (nn : Int) - 1 = (pp : Int) := by omega
    have HAR := Lib.hid (show x < mid ∧ mid < y ∧ 2 * mid ≤ x + y ∧ x + y ≤ 2 * mid + 1 ∧ mid + m = nn ∧ nn - 1 = pp ∧ x < m ∧ m < y by omega)
    have hmy2 : mid ≤ n := by omega
    have hnn2 : nn ≤ 2 * n := by omega
    clear hmid hnn hpp
    have hmm' : decide (mid < m) = false := decide_eq_false (by have := HAR.out; omega)
    have HAS := Lib.hid (show x ≤ m ∧ m ≤ mid by have := HAR.out; omega)
    clear hcond
    go_enter Tryz.func106, Tryz.ntmps106
    go_wp2_with fail
    go_loopg [20, 21] (m - x) (fun gk s10 s11 wr => ∃ (i j : Nat), gk = j - i ∧ s10 = .int .i64 i ∧ s11 = .int .i64 j ∧ x ≤ i ∧ i ≤ j ∧ j ≤ m ∧ RowC base wr b cap t ∧ w.grownBy wr (some b))
    case atStart => exact ⟨x, m, rfl, rfl, rfl, Nat.le_refl _, by omega, Nat.le_refl _, HR.out, World.grownBy.refl _ _⟩
    case round =>
      obtain ⟨i, j, hg, rfl, rfl, hi1, hi2, hi3, hr, hgw⟩ := hrel
      have Hg := Lib.hid hg
      have HR1 := Lib.hid hr
      have HG1 := Lib.hid hgw
      clear hg hr hgw
      have HM1 : Hid (Mem t t) := Lib.hid (Mem.refl t)
      have HL1 := HN
      by_cases hij : i < j
      · have hij' : decide (i < j) = true := decide_eq_true hij
        obtain ⟨q, hq, q1, q2, q3⟩ := mid_facts i j (by omega)
        have hqj : q < j := by omega
        have hqi : i ≤ q := by omega
        clear hq
        obtain ⟨pc, hpc⟩ : ∃ pc, pp - q = pc := ⟨_, rfl⟩
        have hpcn : pc < n := by have := HAR.out; have := HAS.out; omega
        have spc : (pp : Int) - (q : Int) = (pc : Int) := by have := HAR.out; have := HAS.out; omega
        clear hpc
        have hcx' : ∃ cx, t[pc]? = some cx := ⟨_, List.getElem?_eq_getElem (by have := HL1.out; omega)⟩
        have hcy' : ∃ cy, t[q]? = some cy := ⟨_, List.getElem?_eq_getElem (by have := HL1.out; omega)⟩
        obtain ⟨cx, hcx⟩ := hcx'
        obtain ⟨cy, hcy⟩ := hcy'
        have HCX := Lib.hid hcx
        have HCY := Lib.hid hcy
        have bx : (pc : Int) < (n : Int) := by omega
        have by' : (q : Int) < (n : Int) := by omega
        obtain ⟨z, hz⟩ := cmp_grown (HC.out.grown HG1.out) cx cy ((HOK.out.mem HM1.out) _ (List.mem_of_getElem? hcx)) ((HOK.out.mem HM1.out) _ (List.mem_of_getElem? hcy))
        have HZ := Lib.hid hz
        have u0 := cell_regrown (HR1.out.cell hcx (f := 0) (by decide) rfl)
        have u1 := cell_regrown (HR1.out.cell hcx (f := 1) (by decide) rfl)
        have u2 := cell_regrown (HR1.out.cell hcx (f := 2) (by decide) rfl)
        have u3 := cell_regrown (HR1.out.cell hcx (f := 3) (by decide) rfl)
        have v0 := cell_regrown (HR1.out.cell hcy (f := 0) (by decide) rfl)
        have v1 := cell_regrown (HR1.out.cell hcy (f := 1) (by decide) rfl)
        have v2 := cell_regrown (HR1.out.cell hcy (f := 2) (by decide) rfl)
        have v3 := cell_regrown (HR1.out.cell hcy (f := 3) (by decide) rfl)
        rw [Nat.add_zero] at u0 v0
        clear hcx hcy hz
        go_wp2_with fail
        refine wp_region_quiet_below (by kernel_rfl) (by kernel_rfl) ?_
        repeat (go_big_quiet_step (exact HZ.out _ _))
        refine wpQuiet_nil ?_
        intro _ hw'
        obtain ⟨⟨dq, osq⟩, hw''⟩ := hw'
        subst hw''
        have hbq := below_regrown wr dq osq
        have HR2 := Lib.hid (HR1.out.below hbq)
        have HG2 := Lib.hid (HG1.out.trans (grown_some (row := some b) hbq))
        clear u0 u1 u2 u3 v0 v1 v2 v3 HZ hbq
        generalize grow (redrawn wr dq) osq = w4 at *
        by_cases hz0 : z < 0
        · have hz1 : decide (z < 0) = true := decide_eq_true hz0
          rw [hz1]
          clear hz0 hz1
          go_wp2_with fail
          go_roundg (q - i)
          case measure => have := Hg.out; omega
          case rel => exact ⟨i, q, rfl, rfl, rfl, by omega, by omega, by omega, HR2.out, HG2.out⟩
        · have hz1 : decide (z < 0) = false := decide_eq_false hz0
          rw [hz1]
          clear hz0 hz1
          go_wp2_with fail
          go_roundg (j - (q + 1))
          case measure => have := Hg.out; omega
          case rel => exact ⟨q + 1, j, rfl, by go_num, rfl, by omega, by omega, by omega, HR2.out, HG2.out⟩
      · have hij' : decide (i < j) = false := decide_eq_false hij
        obtain rfl : i = j := by omega
        clear hij hij'
        obtain ⟨en, hen⟩ : ∃ en, nn - i = en := ⟨_, rfl⟩
        have se : (nn : Int) - (i : Int) = (en : Int) := by have := HAR.out; have := HAS.out; omega
        have hen1 : en ≤ y := by have := HAR.out; have := HAS.out; omega
        have HEN := Lib.hid (show x < mid ∧ mid < y by have := HAR.out; omega)
        obtain ⟨t1, ht1⟩ : ∃ t1, t1 = t := ⟨_, rfl⟩
        have HM1' : Hid (Mem t t1) := Lib.hid (by rw [ht1]; exact Mem.refl t)
        have HR1' : Hid (RowC base wr b cap t1) := Lib.hid (by rw [ht1]; exact HR1.out)
        have HL1' : Hid (t1.length = n) := Lib.hid (by rw [ht1]; exact HN.out)
        clear ht1 HM1 HR1 HL1 hen
        have HM1 := HM1'
        have HR1 := HR1'
        have HL1 := HL1'
        clear HM1' HR1' HL1' Hg
        go_upto_region 39 with (fail)
        go_cut [185] from 178 to 219 (fun s wx => s = .bool (decide (i < m ∧ m < en)) ∧ wr = wx)
        case first =>
          by_cases h1 : i < m
          · have d1 : decide (i < m) = true := decide_eq_true h1
            by_cases h2 : m < en
            · have d2 : decide (m < en) = true := decide_eq_true h2
              have D := Lib.hid (decide_eq_true (And.intro h1 h2))
              clear h1 h2
              go_wp2_with fail
              go_meet
              exact ⟨by rw [D.out], rfl⟩
            · have d2 : decide (m < en) = false := decide_eq_false h2
              have D := Lib.hid (decide_eq_false (fun h : i < m ∧ m < en => h2 h.2))
              clear h1 h2
              go_wp2_with fail
              go_meet
              exact ⟨by rw [D.out], rfl⟩
          · have d1 : decide (i < m) = false := decide_eq_false h1
            have D := Lib.hid (decide_eq_false (fun h : i < m ∧ m < en => h1 h.1))
            clear h1
            go_wp2_with fail
            go_meet
            exact ⟨by rw [D.out], rfl⟩
        case rest =>
        obtain ⟨rfl, rfl⟩ := hcut
        go_upto_if 185 with (fail)
        go_cut [185] from 178 to 219 (fun _ wx => ∃ t2, Mem t t2 ∧ RowC base wx b cap t2 ∧ w.grownBy wx (some b))
        case first =>
          by_cases hcc : i < m ∧ m < en
          · rw [decide_eq_true hcc]
            have CS := Lib.hid (rotate_any base b cap t1 (.func (.func 56) #[] #[.pointer (some ⟨kb, 0, none⟩)]) i m en _ HR1.out hcc.1 hcc.2 (by have := HL1.out; omega) (by have := HL1.out; omega))
            rw [HL1.out] at CS
            clear hcc
            go_wp2_with fail
            refine CS.out.mono ?_
            rintro e w6 ⟨rfl, t2, hm2, hr2, hg2⟩
            have H2 := Lib.hid (And.intro hm2 (And.intro hr2 hg2))
            clear hm2 hr2 hg2 CS
            go_wp2_with fail
            go_meet
            exact ⟨t2, HM1.out.trans H2.out.1, H2.out.2.1, HG1.out.trans H2.out.2.2⟩
          · rw [decide_eq_false hcc]
            clear hcc
            go_wp2_with fail
            go_meet
            exact ⟨t1, HM1.out, HR1.out, HG1.out⟩
        case rest =>
        obtain ⟨t2, hm2, hr2, hg2⟩ := hcut
        clear HM1 HR1 HG1 HL1
        have HM1 := Lib.hid hm2
        have HR1 := Lib.hid hr2
        have HG1 := Lib.hid hg2
        have HL1 := Lib.hid (hm2.1.trans HN.out)
        clear hm2 hr2 hg2
        obtain ⟨t1, ht1⟩ : ∃ t1, t1 = t2 := ⟨_, rfl⟩
        subst ht1
        go_upto_region 41 with (fail)
        go_cut [199] from 192 to 219 (fun s wx => s = .bool (decide (x < i ∧ i < mid)) ∧ wc = wx)
        case first =>
          by_cases h1 : x < i
          · have d1 : decide (x < i) = true := decide_eq_true h1
            by_cases h2 : i < mid
            · have d2 : decide (i < mid) = true := decide_eq_true h2
              have D := Lib.hid (decide_eq_true (And.intro h1 h2))
              clear h1 h2
              go_wp2_with fail
              go_meet
              exact ⟨by rw [D.out], rfl⟩
            · have d2 : decide (i < mid) = false := decide_eq_false h2
              have D := Lib.hid (decide_eq_false (fun h : x < i ∧ i < mid => h2 h.2))
              clear h1 h2
              go_wp2_with fail
              go_meet
              exact ⟨by rw [D.out], rfl⟩
          · have d1 : decide (x < i) = false := decide_eq_false h1
            have D := Lib.hid (decide_eq_false (fun h : x < i ∧ i < mid => h1 h.1))
            clear h1
            go_wp2_with fail
            go_meet
            exact ⟨by rw [D.out], rfl⟩
        case rest =>
        obtain ⟨rfl, rfl⟩ := hcut
        go_upto_if 199 with (fail)
        go_cut [199] from 192 to 219 (fun _ wx => ∃ t2, Mem t t2 ∧ RowC base wx b cap t2 ∧ w.grownBy wx (some b))
        case first =>
          by_cases hcc : x < i ∧ i < mid
          · rw [decide_eq_true hcc]
            have CS := Lib.hid (IH.out t1 x i mid _ (by have := HEN.out; omega) HR1.out (HC.out.grown HG1.out) (HOK.out.mem HM1.out) hcc.1 hcc.2 (by have := HL1.out; omega) (by have := HL1.out; omega))
            rw [HL1.out] at CS
            clear hcc
            go_wp2_with fail
            refine CS.out.mono ?_
            rintro e w6 ⟨rfl, t2, hm2, hr2, hg2⟩
            have H2 := Lib.hid (And.intro hm2 (And.intro hr2 hg2))
            clear hm2 hr2 hg2 CS
            go_wp2_with fail
            go_meet
            exact ⟨t2, HM1.out.trans H2.out.1, H2.out.2.1, HG1.out.trans H2.out.2.2⟩
          · rw [decide_eq_false hcc]
            clear hcc
            go_wp2_with fail
            go_meet
            exact ⟨t1, HM1.out, HR1.out, HG1.out⟩
        case rest =>
        obtain ⟨t2, hm2, hr2, hg2⟩ := hcut
        clear HM1 HR1 HG1 HL1
        have HM1 := Lib.hid hm2
        have HR1 := Lib.hid hr2
        have HG1 := Lib.hid hg2
        have HL1 := Lib.hid (hm2.1.trans HN.out)
        clear hm2 hr2 hg2
        obtain ⟨t1, ht1⟩ : ∃ t1, t1 = t2 := ⟨_, rfl⟩
        subst ht1
        go_upto_region 43 with (fail)
        go_cut [213] from 206 to 219 (fun s wx => s = .bool (decide (mid < en ∧ en < y)) ∧ wc = wx)
        case first =>
          by_cases h1 : mid < en
          · have d1 : decide (mid < en) = true := decide_eq_true h1
            by_cases h2 : en < y
            · have d2 : decide (en < y) = true := decide_eq_true h2
              have D := Lib.hid (decide_eq_true (And.intro h1 h2))
              clear h1 h2
              go_wp2_with fail
              go_meet
              exact ⟨by rw [D.out], rfl⟩
            · have d2 : decide (en < y) = false := decide_eq_false h2
              have D := Lib.hid (decide_eq_false (fun h : mid < en ∧ en < y => h2 h.2))
              clear h1 h2
              go_wp2_with fail
              go_meet
              exact ⟨by rw [D.out], rfl⟩
          · have d1 : decide (mid < en) = false := decide_eq_false h1
            have D := Lib.hid (decide_eq_false (fun h : mid < en ∧ en < y => h1 h.1))
            clear h1
            go_wp2_with fail
            go_meet
            exact ⟨by rw [D.out], rfl⟩
        case rest =>
        obtain ⟨rfl, rfl⟩ := hcut
        go_upto_if 213 with (fail)
        by_cases hcc : mid < en ∧ en < y
        · rw [decide_eq_true hcc]
          have CS := Lib.hid (IH.out t1 mid en y _ (by have := HEN.out; omega) HR1.out (HC.out.grown HG1.out) (HOK.out.mem HM1.out) hcc.1 hcc.2 (by have := HL1.out; omega) (by have := HL1.out; omega))
          rw [HL1.out] at CS
          clear hcc
          go_wp2_with fail
          refine CS.out.mono ?_
          rintro e w6 ⟨rfl, t2, hm2, hr2, hg2⟩
          have H2 := Lib.hid (And.intro hm2 (And.intro hr2 hg2))
          clear hm2 hr2 hg2 CS
          go_wp2_with fail
          refine bodyPost_end (results_none rfl _ _ _) rfl ?_
          exact ⟨rfl, t2, HM1.out.trans H2.out.1, H2.out.2.1, HG1.out.trans H2.out.2.2⟩
        · rw [decide_eq_false hcc]
          clear hcc
          go_wp2_with fail
          refine bodyPost_end (results_none rfl _ _ _) rfl ?_
          exact ⟨rfl, t1, HM1.out, HR1.out, HG1.out⟩
end Go.Proofs.YtioeifbobhdccaaGreatDoor
/- Sorting colours: stably. -/
namespace Go.Proofs.YtioeifbobhdccaaGreatDoor
open Go.RowKit Go.Sort
theorem symMerge_any (base b cap kb k : Nat) : ∀ (sz : Nat) (t : List C4) (x m y : Nat) (w : World), y - x ≤ sz → RowC base w b cap t → CmpAt w b kb k → okAll t → x < m → m < y → y ≤ t.length → t.length ≤ 1099511627776 →
    Calls Tryz.prog 106 #[.slice (some ⟨b, 0, none⟩) t.length cap, .int .i64 x, .int .i64 m, .int .i64 y, .func (.func 56) #[] #[.pointer (some ⟨kb, 0, none⟩)]] w (SortPost base b cap t w)
  | 0, t, x, m, y, w, hsz, _, _, _, h1, h2, _, _ => by omega
  | sz + 1, t, x, m, y, w, hsz, h, hc, hok, hxm, hmy, hy, hl => by
    by_cases hone : m - x = 1
    · exact symMerge_one base b cap kb k t x m y w h hc hok hxm hmy hy hl hone
    by_cases htwo : y - m = 1
    · exact symMerge_two base b cap kb k t x m y w h hc hok hxm hmy hy hl hone htwo
    by_cases hmid : (x + y) / 2 < m
    · exact symMerge_hi base b cap kb k t x m y w h hc hok hxm hmy hy hl hone htwo (fun t x' m' y' w h0 h1 h2 h3 h4 h5 h6 h7 => symMerge_any base b cap kb k sz t x' m' y' w (by omega) h1 h2 h3 h4 h5 h6 h7) ⟨by omega, hmid⟩
    · exact symMerge_lo base b cap kb k t x m y w h hc hok hxm hmy hy hl hone htwo (fun t x' m' y' w h0 h1 h2 h3 h4 h5 h6 h7 => symMerge_any base b cap kb k sz t x' m' y' w (by omega) h1 h2 h3 h4 h5 h6 h7) (by omega)
set_option maxRecDepth 100000 in
set_option maxHeartbeats 3200000 in
theorem stable_any (base b cap kb k : Nat) (t : List C4) (w : World) (h : RowC base w b cap t) (hc : CmpAt w b kb k) (hok : okAll t) (hl : t.length ≤ 1073741824) :
    Calls Tryz.prog 86 #[.slice (some ⟨b, 0, none⟩) t.length cap, .int .i64 t.length, .func (.func 56) #[] #[.pointer (some ⟨kb, 0, none⟩)]] w (SortPost base b cap t w) := by
  have HR := Lib.hid h
  have HC := Lib.hid hc
  have HOK := Lib.hid hok
  obtain ⟨n, hn⟩ : ∃ n, t.length = n := ⟨_, rfl⟩
  rw [hn] at hl ⊢
  have HN := Lib.hid hn
  clear h hc hok hn
  go_enter Tryz.func86, Tryz.ntmps86
  go_wp2_with fail
  go_loopg [7, 8] n (fun gk s7 s8 wr => ∃ (a : Nat) (t1 : List C4), gk = n - a ∧ a ≤ n ∧ s7 = .int .i64 a ∧ s8 = .int .i64 (a + 20 : Nat) ∧ Mem t t1 ∧ RowC base wr b cap t1 ∧ w.grownBy wr (some b))
  case atStart => exact ⟨0, t, rfl, Nat.zero_le _, rfl, rfl, Mem.refl _, HR.out, World.grownBy.refl _ _⟩
  case round =>
    obtain ⟨a, t1, hg, ha, rfl, rfl, hm, hr, hgw⟩ := hrel
    have Hg := Lib.hid hg
    have HM := Lib.hid hm
    have HR1 := Lib.hid hr
    have HG := Lib.hid hgw
    have HL1 := Lib.hid (hm.1.trans HN.out)
    clear hg hm hr hgw
    obtain ⟨a2, ha2⟩ : ∃ a2, a + 20 = a2 := ⟨_, rfl⟩
    rw [ha2]
    have s20 : (a2 : Int) + 20 = ((a2 + 20 : Nat) : Int) := by omega
    have S20 := Lib.hid s20
    have HA2 := Lib.hid ha2
    clear s20
    by_cases hle : a2 ≤ n
    · have hle' : decide (a2 ≤ n) = true := decide_eq_true hle
      have ha2b : a2 ≤ 1073741824 := by omega
      have CS := Lib.hid (insertion_any base b cap t1 kb k a a2 wr HR1.out (HC.out.grown HG.out) (HOK.out.mem HM.out) (by omega) (by have := HL1.out; omega) (by have := HL1.out; omega))
      rw [HL1.out] at CS
      clear ha2 hle
      go_wp2_with fail
      refine CS.out.mono ?_
      rintro e w2 ⟨rfl, t2, hm2, hr2, hg2⟩
      have H2 := Lib.hid (And.intro hm2 (And.intro hr2 hg2))
      clear hm2 hr2 hg2 CS
      go_wp2_with fail
      go_roundg (n - a2)
      case measure => have := Hg.out; have := HA2.out; have := of_decide_eq_true hle'; omega
      case rel => exact ⟨a2, t2, rfl, of_decide_eq_true hle', rfl, by have hb := of_decide_eq_true hle'; go_num, HM.out.trans H2.out.1, H2.out.2.1, HG.out.trans H2.out.2.2⟩
    · have hle' : decide (a2 ≤ n) = false := decide_eq_false hle
      have CS := Lib.hid (insertion_any base b cap t1 kb k a n wr HR1.out (HC.out.grown HG.out) (HOK.out.mem HM.out) (by omega) (by have := HL1.out; omega) (by have := HL1.out; omega))
      rw [HL1.out] at CS
      clear ha2 hle
      go_wp2_with fail
      refine CS.out.mono ?_
      rintro e w2 ⟨rfl, t2, hm2, hr2, hg2⟩
      have H2 := Lib.hid (And.intro hm2 (And.intro hr2 hg2))
      clear hm2 hr2 hg2 CS
      go_wp2_with fail
      have HM2 := Lib.hid (HM.out.trans H2.out.1)
      have HR2 := Lib.hid H2.out.2.1
      have HG2 := Lib.hid (HG.out.trans H2.out.2.2)
      clear HM HR1 HG HL1 H2 HA2 S20 hle' Hg
      go_loopg [6, 7, 8, 9] (n - 20) (fun gk s6 s7 s8 s9 wr => ∃ (bs : Nat) (t1 : List C4), gk = n - bs ∧ 1 ≤ bs ∧ bs ≤ 2 * n + 20 ∧ s6 = .int .i64 bs ∧ Mem t t1 ∧ RowC base wr b cap t1 ∧ w.grownBy wr (some b))
      case atStart => exact ⟨20, t2, rfl, by decide, by omega, rfl, HM2.out, HR2.out, HG2.out⟩
      case round =>
        obtain ⟨bs, t1, hg, hb1, hb2, rfl, hm, hr, hgw⟩ := hrel
        have Hg := Lib.hid hg
        clear HM2 HR2 HG2
        have HM2 := Lib.hid hm
        have HR2 := Lib.hid hr
        have HG2 := Lib.hid hgw
        clear hg hm hr hgw
        by_cases hlt : bs < n
        · have hlt' : decide (bs < n) = true := decide_eq_true hlt
          obtain ⟨b2, hb2e⟩ : ∃ b2, 2 * bs = b2 := ⟨_, rfl⟩
          have sb : (2 : Int) * (bs : Int) = (b2 : Int) := by omega
          have sb' : (bs : Int) * 2 = (b2 : Int) := by omega
          have HB2 := Lib.hid hb2e
          clear hb2e
          go_wp2_with fail
          go_loopg [7, 8] n (fun gk s7 s8 wr => ∃ (a : Nat) (t1 : List C4), gk = n - a ∧ a ≤ n ∧ s7 = .int .i64 a ∧ s8 = .int .i64 (a + b2 : Nat) ∧ Mem t t1 ∧ RowC base wr b cap t1 ∧ w.grownBy wr (some b))
          case atStart => exact ⟨0, t1, rfl, Nat.zero_le _, rfl, by rw [Nat.zero_add], HM2.out, HR2.out, HG2.out⟩
          case round =>
            obtain ⟨a, t1, hg, ha, rfl, rfl, hm, hr, hgw⟩ := hrel
            have Hg3 := Lib.hid hg
            clear HM2 HR2 HG2
            have HM2 := Lib.hid hm
            have HR2 := Lib.hid hr
            have HG2 := Lib.hid hgw
            have HL1 := Lib.hid (hm.1.trans HN.out)
            clear hg hm hr hgw
            obtain ⟨y, hy⟩ : ∃ y, a + b2 = y := ⟨_, rfl⟩
            obtain ⟨m, hm⟩ : ∃ m, a + bs = m := ⟨_, rfl⟩
            rw [hy]
            have sm : (a : Int) + (bs : Int) = (m : Int) := by omega
            have HY := Lib.hid hy
            have HMM := Lib.hid hm
            have ham : a < m := by omega
            have hmb : m ≤ 4294967296 := by omega
            clear hy hm
            by_cases hle : y ≤ n
            · have hle2 : decide (y ≤ n) = true := decide_eq_true hle
              have CS := Lib.hid (symMerge_any base b cap kb k (y - a) t1 a m y wr (Nat.le_refl _) HR2.out (HC.out.grown HG2.out) (HOK.out.mem HM2.out) ham (by have := HY.out; have := HMM.out; have := HB2.out; omega) (by have := HL1.out; omega) (by have := HL1.out; omega))
              rw [HL1.out] at CS
              clear hle
              go_wp2_with fail
              refine CS.out.mono ?_
              rintro e w2 ⟨rfl, t2, hm2, hr2, hg2⟩
              have H2 := Lib.hid (And.intro hm2 (And.intro hr2 hg2))
              clear hm2 hr2 hg2 CS
              have sy : (y : Int) + (b2 : Int) = ((y + b2 : Nat) : Int) := by omega
              have hy3 : y + b2 ≤ 8589934592 := by have := HB2.out; have := of_decide_eq_true hle2; omega
              have SY := Lib.hid sy
              clear sy
              go_wp2_with fail
              go_roundg (n - y)
              case measure => have := Hg3.out; have := HY.out; have := HB2.out; have := of_decide_eq_true hle2; omega
              case rel => exact ⟨y, t2, rfl, of_decide_eq_true hle2, rfl, by go_num, HM2.out.trans H2.out.1, H2.out.2.1, HG2.out.trans H2.out.2.2⟩
            · have hle2 : decide (y ≤ n) = false := decide_eq_false hle
              clear hle
              by_cases hmn : m < n
              · have hmn' : decide (m < n) = true := decide_eq_true hmn
                have CS := Lib.hid (symMerge_any base b cap kb k (n - a) t1 a m n wr (Nat.le_refl _) HR2.out (HC.out.grown HG2.out) (HOK.out.mem HM2.out) ham hmn (by have := HL1.out; omega) (by have := HL1.out; omega))
                rw [HL1.out] at CS
                clear hmn
                go_wp2_with fail
                refine CS.out.mono ?_
                rintro e w2 ⟨rfl, t2, hm2, hr2, hg2⟩
                have H2 := Lib.hid (And.intro hm2 (And.intro hr2 hg2))
                clear hm2 hr2 hg2 CS
                go_wp2_with fail
                go_roundg (n - b2)
                case measure => have := Hg.out; have := HB2.out; omega
                case rel => exact ⟨b2, t2, rfl, by have := HB2.out; omega, by have := HB2.out; omega, rfl, HM2.out.trans H2.out.1, H2.out.2.1, HG2.out.trans H2.out.2.2⟩
              · have hmn' : decide (m < n) = false := decide_eq_false hmn
                clear hmn
                go_wp2_with fail
                go_roundg (n - b2)
                case measure => have := Hg.out; have := HB2.out; omega
                case rel => exact ⟨b2, t1, rfl, by have := HB2.out; omega, by have := HB2.out; omega, rfl, HM2.out, HR2.out, HG2.out⟩
        · have hlt' : decide (bs < n) = false := decide_eq_false hlt
          clear hlt
          go_wp2_with fail
          refine bodyPost_end (results_none rfl _ _ _) rfl ?_
          exact ⟨rfl, t1, HM2.out, HR2.out, HG2.out⟩
set_option maxRecDepth 100000 in
theorem sortStable_any (base b cap kb k : Nat) (t : List C4) (w : World) (h : RowC base w b cap t) (hc : CmpAt w b kb k) (hok : okAll t) (hl : t.length ≤ 1073741824) :
    Calls Tryz.prog 55 #[.slice (some ⟨b, 0, none⟩) t.length cap, .func (.func 56) #[] #[.pointer (some ⟨kb, 0, none⟩)]] w (SortPost base b cap t w) := by
  have CS := Lib.hid (stable_any base b cap kb k t w h hc hok hl)
  clear h hc hok
  go_enter Tryz.func55, Tryz.ntmps55
  go_wp2_with fail
  refine CS.out.mono ?_
  rintro e w2 ⟨rfl, h2⟩
  have H2 := Lib.hid h2
  clear h2 CS
  go_wp2_with fail
  refine bodyPost_end (results_none rfl _ _ _) rfl ?_
  exact ⟨rfl, H2.out⟩
end Go.Proofs.YtioeifbobhdccaaGreatDoor
