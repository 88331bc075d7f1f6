/- Texts of this claim, joined. -/
import Derived.Test.YthpckmcgbmfmcaaGreatDoorM25
import Derived.Deep.CutBlock
set_option maxRecDepth 100000
set_option maxHeartbeats 12800000
namespace Go.Proofs.YthpckmcgbmfmcaaGreatDoor
open Go.RowKit Go.Sort
theorem mid_facts (i j : Nat) (h : i + j <= 4398046511104) : ∃ q : Nat, q = (i + j) / 2 /\ ((i : Int) + (j : Int)) / 2 = (q : Int) /\ ((i : Int) + (j : Int)) % 18446744073709551616 = (i : Int) + (j : Int) /\ IntKind.i64.wrap (q : Int) = (q : Int) := by
 refine ⟨(i + j) / 2, rfl, by omega, by omega, i64i (by omega)⟩
theorem at_of {t : List Cn} {i : Nat} {c : Cn} (h : t[i]? = some c) : so.at' Cn.zero t i = c := by unfold so.at'; rw [List.getD_eq_getElem?_getD, h]; rfl
theorem kmerge_one (base b cap : Nat) (t : List Cn) (x m y : Nat) (w : World) (h : RowK base w b cap t) (hxm : x < m) (hmy : m < y) (hy : y <= t.length) (hl : t.length <= 1099511627776) (hs1 : so.Srt Cn.w (so.at' Cn.zero t) x m) (hs2 : so.Srt Cn.w (so.at' Cn.zero t) m y) (hone : m - x = 1) :
  Calls Tryz.prog 176 #[.slice (some ⟨b, 0, none⟩) t.length cap, .int .i64 x, .int .i64 m, .int .i64 y, .func (.func 139) #[] #[]] w (SortPost base b cap x y t w) := by
 have HR := hd_ h;have HS1 := hd_ hs1;have HS2 := hd_ hs2;obtain ⟨n, hn⟩ : ∃ n, t.length = n := ⟨_, rfl⟩;rw [hn] at hy hl ⊢;have HN := hd_ hn;clear h hn hs1 hs2;have hxm' : (x : Int) < (m : Int) := by omega
 have hmy' : (m : Int) < (y : Int) := by omega
 have hone' : ((m : Int) - (x : Int) == 1) = true := by simp; omega
 have HE := hd_ hone;clear hone;go_enter Tryz.func176, Tryz.ntmps176
 go_wp2_with fail
 go_loopg [10, 11] (y - m) (fun gk s10 s11 wr => ∃ (i j : Nat), gk = j - i /\ s10 = .int .i64 i /\ s11 = .int .i64 j /\ m <= i /\ i <= j /\ j <= y /\ (∀ c, m <= c -> c < i -> (so.at' Cn.zero t c).w <= (so.at' Cn.zero t x).w) /\ (∀ c, j <= c -> c < y -> (so.at' Cn.zero t x).w <= (so.at' Cn.zero t c).w) /\ RowK base wr b cap t /\ w.grownBy wr (some b))
 case atStart => exact ⟨m, y, rfl, rfl, rfl, Nat.le_refl _, by omega, Nat.le_refl _, fun c _ _ => by omega, fun c _ _ => by omega, HR.out, World.grownBy.refl _ _⟩
 case round =>
  obtain ⟨i, j, hg, rfl, rfl, hi1, hi2, hi3, hlo, hhi, hr, hgw⟩ := hrel;have Hg := hd_ hg;have HLO := hd_ hlo;have HHI := hd_ hhi;have HR1 := hd_ hr;have HG1 := hd_ hgw;clear hg hlo hhi hr hgw;by_cases hij : i < j
  ·have hij' : decide (i < j) = true := decide_eq_true hij
   obtain ⟨q, hq, q1, q2, q3⟩ := mid_facts i j (by omega);have hqj : q < j := (by omega);have hqi : i <= q := (by omega);clear hq;obtain ⟨cx, hcx⟩ : ∃ cx, t[q]? = some cx := ⟨_, List.getElem?_eq_getElem (by have := HN.out; omega)⟩;obtain ⟨cy, hcy⟩ : ∃ cy, t[x]? = some cy := ⟨_, List.getElem?_eq_getElem (by have := HN.out; omega)⟩;have HKX := hd_ (at_of hcx);have HKY := hd_ (at_of hcy);have bx : (q : Int) < (n : Int) := (by omega);have by' : (x : Int) < (n : Int) := (by omega);obtain ⟨z, hz0, hz⟩ := kcmp_grown cx cy wr;have HZ := hd_ hz;have HZ0 := hd_ hz0;have u0 := cell_regrown (HR1.out.cell hcx (f := 0) (by decide) rfl);have u1 := cell_regrown (HR1.out.cell hcx (f := 1) (by decide) rfl);have v0 := cell_regrown (HR1.out.cell hcy (f := 0) (by decide) rfl);have v1 := cell_regrown (HR1.out.cell hcy (f := 1) (by decide) rfl);rw [Nat.add_zero] at u0 v0;clear hcx hcy hz hz0;go_wp2_with fail
   refine wp_region_quiet_below (by kernel_rfl) (by kernel_rfl) ?_
   repeat (go_big_quiet_step (exact HZ.out _ _))
   refine wpQuiet_nil ?_;intro _ hw';obtain ⟨⟨dq, osq⟩, hw''⟩ := hw';subst hw'';have hbq := below_regrown wr dq osq;have HR2 := hd_ (HR1.out.below hbq);have HG2 := hd_ (HG1.out.trans (grown_some (row := some b) hbq));clear u0 u1 v0 v1 HZ hbq;generalize grow (redrawn wr dq) osq = w4 at *;by_cases hz0 : z < 0
   ·have hz1 : decide (z < 0) = true := decide_eq_true hz0
    have HLT := hd_ (HZ0.out.1 hz0);rw [hz1];clear hz0 hz1;go_wp2_with fail
    go_roundg (j - (q + 1))
    case measure => have := Hg.out; omega
    case rel =>
     refine ⟨q + 1, j, rfl, by go_num, rfl, by omega, by omega, by omega, fun c c1 c2 => ?_, HHI.out, HR2.out, HG2.out⟩;have h2 := HS2.out.at (i := c) (j := q) c1 (by omega) (by omega);rw [HKX.out] at h2;rw [HKY.out];have := HLT.out;omega
   ·have hz1 : decide (z < 0) = false := decide_eq_false hz0
    have HLT : Hid (¬ cx.w < cy.w) := hd_ (fun h => hz0 (HZ0.out.2 h));rw [hz1];clear hz0 hz1;go_wp2_with fail
    go_roundg (q - i)
    case measure => have := Hg.out; omega
    case rel =>
     refine ⟨i, q, rfl, rfl, rfl, by omega, by omega, by omega, HLO.out, fun c c1 c2 => ?_, HR2.out, HG2.out⟩;have h2 := HS2.out.at (i := q) (j := c) (by omega) c1 c2;rw [HKX.out] at h2;rw [HKY.out];have := HLT.out;omega
  ·have hij' : decide (i < j) = false := decide_eq_false hij
   obtain rfl : i = j := (by omega);clear hij hij' Hg;obtain ⟨i1, hi1e⟩ : ∃ i1, i - 1 = i1 := ⟨_, rfl⟩;have si : (i : Int) - 1 = (i1 : Int) := (by omega);have hi1n : i1 < n := (by omega);have hi1x : x <= i1 := (by omega);have hi1y : i1 < y := (by omega);have HF : Hid (so.Srt Cn.w (so.movR (so.at' Cn.zero t) x i1) x y) := hd_ (by
    have hm := HE.out;rw [<- hi1e];exact so.merge_first (HS2.out.part (by omega) (Nat.le_refl _)) (by omega) hi3 (fun c c1 c2 => HLO.out c (by omega) c2) HHI.out)
   clear hi1e HLO HHI;go_wp2_with fail
   go_loopg [13] (i1 - x) (fun gk s13 wr => ∃ (kk : Nat) (t1 : List Cn), x <= kk /\ kk <= i1 /\ gk = i1 - kk /\ s13 = .int .i64 kk /\ so.PermIn Cn.zero x y t t1 /\ so.at' Cn.zero t1 = so.movR (so.at' Cn.zero t) x kk /\ RowK base wr b cap t1 /\ w.grownBy wr (some b))
   case atStart => exact ⟨x, t, Nat.le_refl _, hi1x, rfl, rfl, so.PermIn.refl _ _ _ _, (so.movR_zero _ _).symm, HR1.out, HG1.out⟩
   case round =>
    obtain ⟨kk, t1, hk1, hk2, hg, rfl, hm, ha, hr, hgw⟩ := hrel;have Hg2 := hd_ hg;clear HR1 HG1;have HM1 := hd_ hm;have HA1 := hd_ ha;have HR1 := hd_ hr;have HG1 := hd_ hgw;have HL1 := hd_ (hm.perm.length_eq.trans HN.out);clear hg hm ha hr hgw;by_cases hlt : kk < i1
    ·have hlt' : decide (kk < i1) = true := decide_eq_true hlt
     obtain ⟨yi, hyi⟩ : ∃ yi, kk + 1 = yi := ⟨_, rfl⟩;have sy : (kk : Int) + 1 = (yi : Int) := (by omega);have HYI : Hid (kk + 1 = yi /\ yi <= i1) := hd_ (by omega);have bx : (kk : Int) < (n : Int) := (by omega);have by' : (yi : Int) < (n : Int) := (by omega);obtain ⟨cx, hcx⟩ : ∃ cx, t1[kk]? = some cx := ⟨_, List.getElem?_eq_getElem (by have := HL1.out; omega)⟩;obtain ⟨cy, hcy⟩ : ∃ cy, t1[yi]? = some cy := ⟨_, List.getElem?_eq_getElem (by have := HL1.out; omega)⟩;obtain ⟨x0, x1, y0, y1, f0, f1, g0, g1, h0, h1⟩ := HR1.out.swF hcx hcy (by omega);have HCX := hd_ hcx;have HCY := hd_ hcy;clear hcx hcy hyi;go_upto_region 11 with (fail)
     go_region
     go_wp2_with fail
     go_roundg (i1 - yi)
     case measure => have := Hg2.out; have := HYI.out; omega
     case rel =>
      obtain ⟨hr5, hg5⟩ := HR1.out.swW HCX.out HCY.out;have hxn : kk < t1.length := (List.getElem?_eq_some_iff.1 HCX.out).1;have hyn : yi < t1.length := (List.getElem?_eq_some_iff.1 HCY.out).1;have hyi := HYI.out;have hm := HE.out;refine ⟨yi, so.swL Cn.zero t1 kk yi, by omega, by omega, rfl, by rw [<- sy], HM1.out.sw (by omega) (by omega) (by have := HL1.out; omega), ?_, hr5.below (Below.drew (Below.refl _ _)), HG1.out.trans (hg5.trans (grown_some (Below.drew (Below.refl _ _))))⟩;rw [so.swL_at _ _ hxn hyn, HA1.out, <- hyi.1];exact so.movR_step _ hk1
    ·have hlt' : decide (kk < i1) = false := decide_eq_false hlt
     have HKE : Hid (i1 = kk) := hd_ (by omega);go_wp2_with fail
     refine bodyPost_end (results_none rfl _ _ _) rfl ?_;exact ⟨rfl, t1, HM1.out, by rw [HA1.out, <- HKE.out]; exact HF.out, HR1.out, HG1.out⟩
theorem kmerge_two (base b cap : Nat) (t : List Cn) (x m y : Nat) (w : World) (h : RowK base w b cap t) (hxm : x < m) (hmy : m < y) (hy : y <= t.length) (hl : t.length <= 1099511627776) (hs1 : so.Srt Cn.w (so.at' Cn.zero t) x m) (hs2 : so.Srt Cn.w (so.at' Cn.zero t) m y) (hone : ¬ m - x = 1) (htwo : y - m = 1) :
  Calls Tryz.prog 176 #[.slice (some ⟨b, 0, none⟩) t.length cap, .int .i64 x, .int .i64 m, .int .i64 y, .func (.func 139) #[] #[]] w (SortPost base b cap x y t w) := by
 have HR := hd_ h;have HS1 := hd_ hs1;have HS2 := hd_ hs2;obtain ⟨n, hn⟩ : ∃ n, t.length = n := ⟨_, rfl⟩;rw [hn] at hy hl ⊢;have HN := hd_ hn;clear h hn hs1 hs2;have hxm' : (x : Int) < (m : Int) := by omega
 have hmy' : (m : Int) < (y : Int) := by omega
 have hone' : ((m : Int) - (x : Int) == 1) = false := by simp; omega
 have htwo' : ((y : Int) - (m : Int) == 1) = true := by simp; omega
 have HE := hd_ htwo;clear hone htwo;go_enter Tryz.func176, Tryz.ntmps176
 go_wp2_with fail
 go_loopg [14, 15] (m - x) (fun gk s10 s11 wr => ∃ (i j : Nat), gk = j - i /\ s10 = .int .i64 i /\ s11 = .int .i64 j /\ x <= i /\ i <= j /\ j <= m /\ (∀ c, x <= c -> c < i -> (so.at' Cn.zero t c).w <= (so.at' Cn.zero t m).w) /\ (∀ c, j <= c -> c < m -> (so.at' Cn.zero t m).w <= (so.at' Cn.zero t c).w) /\ RowK base wr b cap t /\ w.grownBy wr (some b))
 case atStart => exact ⟨x, m, rfl, rfl, rfl, Nat.le_refl _, by omega, Nat.le_refl _, fun c _ _ => by omega, fun c _ _ => by omega, HR.out, World.grownBy.refl _ _⟩
 case round =>
  obtain ⟨i, j, hg, rfl, rfl, hi1, hi2, hi3, hlo, hhi, hr, hgw⟩ := hrel;have Hg := hd_ hg;have HLO := hd_ hlo;have HHI := hd_ hhi;have HR1 := hd_ hr;have HG1 := hd_ hgw;clear hg hlo hhi hr hgw;by_cases hij : i < j
  ·have hij' : decide (i < j) = true := decide_eq_true hij
   obtain ⟨q, hq, q1, q2, q3⟩ := mid_facts i j (by omega);have hqj : q < j := (by omega);have hqi : i <= q := (by omega);clear hq;obtain ⟨cx, hcx⟩ : ∃ cx, t[m]? = some cx := ⟨_, List.getElem?_eq_getElem (by have := HN.out; omega)⟩;obtain ⟨cy, hcy⟩ : ∃ cy, t[q]? = some cy := ⟨_, List.getElem?_eq_getElem (by have := HN.out; omega)⟩;have HKX := hd_ (at_of hcx);have HKY := hd_ (at_of hcy);have bx : (m : Int) < (n : Int) := (by omega);have by' : (q : Int) < (n : Int) := (by omega);obtain ⟨z, hz0, hz⟩ := kcmp_grown cx cy wr;have HZ := hd_ hz;have HZ0 := hd_ hz0;have u0 := cell_regrown (HR1.out.cell hcx (f := 0) (by decide) rfl);have u1 := cell_regrown (HR1.out.cell hcx (f := 1) (by decide) rfl);have v0 := cell_regrown (HR1.out.cell hcy (f := 0) (by decide) rfl);have v1 := cell_regrown (HR1.out.cell hcy (f := 1) (by decide) rfl);rw [Nat.add_zero] at u0 v0;clear hcx hcy hz hz0;go_wp2_with fail
   refine wp_region_quiet_below (by kernel_rfl) (by kernel_rfl) ?_
   repeat (go_big_quiet_step (exact HZ.out _ _))
   refine wpQuiet_nil ?_;intro _ hw';obtain ⟨⟨dq, osq⟩, hw''⟩ := hw';subst hw'';have hbq := below_regrown wr dq osq;have HR2 := hd_ (HR1.out.below hbq);have HG2 := hd_ (HG1.out.trans (grown_some (row := some b) hbq));clear u0 u1 v0 v1 HZ hbq;generalize grow (redrawn wr dq) osq = w4 at *;by_cases hz0 : z < 0
   ·have hz1 : decide (z < 0) = true := decide_eq_true hz0
    have HLT := hd_ (HZ0.out.1 hz0);rw [hz1];clear hz0 hz1;go_wp2_with fail
    go_roundg (q - i)
    case measure => have := Hg.out; omega
    case rel =>
     refine ⟨i, q, rfl, rfl, rfl, by omega, by omega, by omega, HLO.out, fun c c1 c2 => ?_, HR2.out, HG2.out⟩;have h2 := HS1.out.at (i := q) (j := c) (by omega) c1 c2;rw [HKY.out] at h2;rw [HKX.out];have := HLT.out;omega
   ·have hz1 : decide (z < 0) = false := decide_eq_false hz0
    have HLT : Hid (¬ cx.w < cy.w) := hd_ (fun h => hz0 (HZ0.out.2 h));rw [hz1];clear hz0 hz1;go_wp2_with fail
    go_roundg (j - (q + 1))
    case measure => have := Hg.out; omega
    case rel =>
     refine ⟨q + 1, j, rfl, by go_num, rfl, by omega, by omega, by omega, fun c c1 c2 => ?_, HHI.out, HR2.out, HG2.out⟩;have h2 := HS1.out.at (i := c) (j := q) c1 (by omega) (by omega);rw [HKY.out] at h2;rw [HKX.out];have := HLT.out;omega
  ·have hij' : decide (i < j) = false := decide_eq_false hij
   obtain rfl : i = j := (by omega);clear hij hij' Hg;have HF : Hid (so.Srt Cn.w (so.movL (so.at' Cn.zero t) m i) x y) := hd_ (by
    have hm := HE.out;rw [show y = m + 1 by omega];exact so.merge_last HS1.out hi1 hi3 HLO.out HHI.out)
   clear HLO HHI;go_wp2_with fail
   go_loopg [17] (m - i) (fun gk s13 wr => ∃ (kk : Nat) (t1 : List Cn), i <= kk /\ kk <= m /\ gk = kk - i /\ s13 = .int .i64 kk /\ so.PermIn Cn.zero x y t t1 /\ so.at' Cn.zero t1 = so.movL (so.at' Cn.zero t) m kk /\ RowK base wr b cap t1 /\ w.grownBy wr (some b))
   case atStart => exact ⟨m, t, hi3, Nat.le_refl _, rfl, rfl, so.PermIn.refl _ _ _ _, (so.movL_zero _ _).symm, HR1.out, HG1.out⟩
   case round =>
    obtain ⟨kk, t1, hk1, hk2, hg, rfl, hm, ha, hr, hgw⟩ := hrel;have Hg2 := hd_ hg;clear HR1 HG1;have HM1 := hd_ hm;have HA1 := hd_ ha;have HR1 := hd_ hr;have HG1 := hd_ hgw;have HL1 := hd_ (hm.perm.length_eq.trans HN.out);clear hg hm ha hr hgw;by_cases hlt : i < kk
    ·have hlt' : decide (i < kk) = true := decide_eq_true hlt
     obtain ⟨yi, hyi⟩ : ∃ yi, kk - 1 = yi := ⟨_, rfl⟩;have sy : (kk : Int) - 1 = (yi : Int) := (by omega);have HYI : Hid (yi + 1 = kk /\ i <= yi) := hd_ (by omega);have bx : (kk : Int) < (n : Int) := (by omega);have by' : (yi : Int) < (n : Int) := (by omega);obtain ⟨cx, hcx⟩ : ∃ cx, t1[kk]? = some cx := ⟨_, List.getElem?_eq_getElem (by have := HL1.out; omega)⟩;obtain ⟨cy, hcy⟩ : ∃ cy, t1[yi]? = some cy := ⟨_, List.getElem?_eq_getElem (by have := HL1.out; omega)⟩;obtain ⟨x0, x1, y0, y1, f0, f1, g0, g1, h0, h1⟩ := HR1.out.swF hcx hcy (by omega);have HCX := hd_ hcx;have HCY := hd_ hcy;clear hcx hcy hyi;go_upto_region 23 with (fail)
     go_region
     go_wp2_with fail
     go_roundg (yi - i)
     case measure => have := Hg2.out; have := HYI.out; omega
     case rel =>
      obtain ⟨hr5, hg5⟩ := HR1.out.swW HCX.out HCY.out;have hxn : kk < t1.length := (List.getElem?_eq_some_iff.1 HCX.out).1;have hyn : yi < t1.length := (List.getElem?_eq_some_iff.1 HCY.out).1;have hyi := HYI.out;have hm := HE.out;refine ⟨yi, so.swL Cn.zero t1 kk yi, by omega, by omega, rfl, by rw [<- sy], HM1.out.sw (by omega) (by omega) (by have := HL1.out; omega), ?_, hr5.below (Below.drew (Below.refl _ _)), HG1.out.trans (hg5.trans (grown_some (Below.drew (Below.refl _ _))))⟩;rw [so.swL_at _ _ hxn hyn, HA1.out, <- hyi.1];exact so.movL_step _ (by omega)
    ·have hlt' : decide (i < kk) = false := decide_eq_false hlt
     have HKE : Hid (i = kk) := hd_ (by omega);go_wp2_with fail
     refine bodyPost_end (results_none rfl _ _ _) rfl ?_;exact ⟨rfl, t1, HM1.out, by rw [HA1.out, <- HKE.out]; exact HF.out, HR1.out, HG1.out⟩
theorem so.rot_none {α : Type} (f : Nat -> α) {s m e : Nat} (h : s = m \/ m = e) (h1 : s <= m) (h2 : m <= e) : so.rot f s m e = f := by
 funext x
 unfold so.rot;rcases h with rfl | rfl
 ·by_cases h3 : s <= x /\ x < s + (e - s)
  ·rw [if_pos h3]
   congr 1
   omega
  ·rw [if_neg h3, if_neg (by omega)]
 ·rw [if_neg (by omega)]
  by_cases h3 : s + (m - m) <= x /\ x < m
  ·rw [if_pos h3]
   congr 1
   omega
  ·rw [if_neg h3]
def MergeIH (base b cap len : Nat) : Prop := ∀ (t : List Cn) (x' m' y' : Nat) (w : World), y' - x' < len -> RowK base w b cap t -> x' < m' -> m' < y' -> y' <= t.length -> t.length <= 1099511627776 -> so.Srt Cn.w (so.at' Cn.zero t) x' m' -> so.Srt Cn.w (so.at' Cn.zero t) m' y' ->
  Calls Tryz.prog 176 #[.slice (some ⟨b, 0, none⟩) t.length cap, .int .i64 x', .int .i64 m', .int .i64 y', .func (.func 139) #[] #[]] w (SortPost base b cap x' y' t w)
theorem kmerge_big (base b cap : Nat) (t : List Cn) (x m y : Nat) (w : World) (h : RowK base w b cap t) (hxm : x < m) (hmy : m < y) (hy : y <= t.length) (hl : t.length <= 1099511627776) (hs1 : so.Srt Cn.w (so.at' Cn.zero t) x m) (hs2 : so.Srt Cn.w (so.at' Cn.zero t) m y) (hone : ¬ m - x = 1) (htwo : ¬ y - m = 1) (ih : MergeIH base b cap (y - x)) :
  Calls Tryz.prog 176 #[.slice (some ⟨b, 0, none⟩) t.length cap, .int .i64 x, .int .i64 m, .int .i64 y, .func (.func 139) #[] #[]] w (SortPost base b cap x y t w) := by
 have IH := hd_ ih;have HR := hd_ h;have HS1 := hd_ hs1;have HS2 := hd_ hs2;obtain ⟨n, hn⟩ : ∃ n, t.length = n := ⟨_, rfl⟩;rw [hn] at hy hl ⊢;have HN := hd_ hn;clear h hn hs1 hs2 ih;have hxm' : (x : Int) < (m : Int) := by omega
 have hmy' : (m : Int) < (y : Int) := by omega
 have hone' : ((m : Int) - (x : Int) == 1) = false := by simp; omega
 have htwo' : ((y : Int) - (m : Int) == 1) = false := by simp; omega
 obtain ⟨mid, hmid, d1, d2, d3⟩ := mid_facts x y (by omega);obtain ⟨nn, hnn⟩ : ∃ nn, mid + m = nn := ⟨_, rfl⟩;obtain ⟨pp, hpp⟩ : ∃ pp, nn - 1 = pp := ⟨_, rfl⟩;have sn : (mid : Int) + (m : Int) = (nn : Int) := by omega
 have spp : (nn : Int) - 1 = (pp : Int) := by omega
 obtain ⟨s0, hs0⟩ : ∃ s0, (if mid < m then nn - y else x) = s0 := ⟨_, rfl⟩;obtain ⟨r0, hr0⟩ : ∃ r0, (if mid < m then mid else m) = r0 := ⟨_, rfl⟩;have HAR := hd_ (show x < mid /\ mid < y /\ 2 * mid <= x + y /\ x + y <= 2 * mid + 1 /\ mid + m = nn /\ nn - 1 = pp /\ x < m /\ m < y by omega);have HAS : Hid (s0 <= r0 /\ x <= s0 /\ r0 <= m /\ r0 <= mid /\ nn <= s0 + y /\ (s0 = x \/ nn = s0 + y) /\ (r0 = m \/ r0 = mid) /\ ((mid < m /\ nn = s0 + y /\ r0 = mid) \/ (¬ mid < m /\ s0 = x /\ r0 = m))) := hd_ (by
  rw [<- hs0, <- hr0];by_cases hc : mid < m
  ·rw [if_pos hc, if_pos hc]; omega
  ·rw [if_neg hc, if_neg hc]; omega)
 have hmy2 : mid <= n := by omega
 have hnn2 : nn <= 2 * n := by omega
 clear hone htwo hmid hnn hpp hs0 hr0;go_enter Tryz.func176, Tryz.ntmps176
 go_upto_if 140 with (fail)
 go_cut [20, 21] from 138 to 219 (fun s20 s21 wx => s20 = .int .i64 (s0 : Nat) /\ s21 = .int .i64 (r0 : Nat) /\ w = wx)
 case first =>
  by_cases hmm : mid < m
  ·have hmm' : decide (mid < m) = true := decide_eq_true hmm
   have ss : (nn : Int) - (y : Int) = (s0 : Int) := (by have := HAS.out; omega);have hrr : r0 = mid := (by have := HAS.out; omega);have hss : s0 <= n := (by have := HAS.out; omega);subst hrr;go_wp2_with fail
   all_goals first
    | (exfalso; omega)
    | (go_meet; exact ⟨rfl, rfl, rfl⟩)
  ·have hmm' : decide (mid < m) = false := decide_eq_false hmm
   have hss : s0 = x := (by have := HAS.out; omega);have hrr : r0 = m := (by have := HAS.out; omega);subst hss hrr;go_wp2_with fail
   all_goals first
    | (exfalso; omega)
    | (go_meet; exact ⟨rfl, rfl, rfl⟩)
 case rest =>
 obtain ⟨rfl, rfl, rfl⟩ := hcut;have hs01 : s0 <= r0 := HAS.out.1;have hr0n : r0 <= n := by have := HAS.out; omega
 go_wp2_with fail
 go_loopg [20, 21] (r0 - s0) (fun gk s10 s11 wr => ∃ (i j : Nat), gk = j - i /\ s10 = .int .i64 i /\ s11 = .int .i64 j /\ s0 <= i /\ i <= j /\ j <= r0 /\ (i = s0 \/ (so.at' Cn.zero t (i - 1)).w <= (so.at' Cn.zero t (pp - (i - 1))).w) /\ (j = r0 \/ (so.at' Cn.zero t (pp - j)).w <= (so.at' Cn.zero t j).w) /\ RowK base wr b cap t /\ w.grownBy wr (some b))
 case atStart => exact ⟨s0, r0, rfl, rfl, rfl, Nat.le_refl _, hs01, Nat.le_refl _, .inl rfl, .inl rfl, HR.out, World.grownBy.refl _ _⟩
 case round =>
  obtain ⟨i, j, hg, rfl, rfl, hi1, hi2, hi3, hlo, hhi, hr, hgw⟩ := hrel;have Hg := hd_ hg;have HLO := hd_ hlo;have HHI := hd_ hhi;have HR1 := hd_ hr;have HG1 := hd_ hgw;clear hg hlo hhi hr hgw;by_cases hij : i < j
  ·have hij' : decide (i < j) = true := decide_eq_true hij
   obtain ⟨q, hq, q1, q2, q3⟩ := mid_facts i j (by omega);have hqj : q < j := (by omega);have hqi : i <= q := (by omega);clear hq;obtain ⟨pc, hpc⟩ : ∃ pc, pp - q = pc := ⟨_, rfl⟩;have hpcn : pc < n := (by have := HAR.out; have := HAS.out; omega);have spc : (pp : Int) - (q : Int) = (pc : Int) := (by have := HAR.out; have := HAS.out; omega);have HPC := hd_ hpc;clear hpc;obtain ⟨cx, hcx⟩ : ∃ cx, t[pc]? = some cx := ⟨_, List.getElem?_eq_getElem (by have := HN.out; omega)⟩;obtain ⟨cy, hcy⟩ : ∃ cy, t[q]? = some cy := ⟨_, List.getElem?_eq_getElem (by have := HN.out; omega)⟩;have HKX := hd_ (at_of hcx);have HKY := hd_ (at_of hcy);have bx : (pc : Int) < (n : Int) := (by omega);have by' : (q : Int) < (n : Int) := (by omega);obtain ⟨z, hz0, hz⟩ := kcmp_grown cx cy wr;have HZ := hd_ hz;have HZ0 := hd_ hz0;have u0 := cell_regrown (HR1.out.cell hcx (f := 0) (by decide) rfl);have u1 := cell_regrown (HR1.out.cell hcx (f := 1) (by decide) rfl);have v0 := cell_regrown (HR1.out.cell hcy (f := 0) (by decide) rfl);have v1 := cell_regrown (HR1.out.cell hcy (f := 1) (by decide) rfl);rw [Nat.add_zero] at u0 v0;clear hcx hcy hz hz0;go_wp2_with fail
   refine wp_region_quiet_below (by kernel_rfl) (by kernel_rfl) ?_
   repeat (go_big_quiet_step (exact HZ.out _ _))
   refine wpQuiet_nil ?_;intro _ hw';obtain ⟨⟨dq, osq⟩, hw''⟩ := hw';subst hw'';have hbq := below_regrown wr dq osq;have HR2 := hd_ (HR1.out.below hbq);have HG2 := hd_ (HG1.out.trans (grown_some (row := some b) hbq));clear u0 u1 v0 v1 HZ hbq;generalize grow (redrawn wr dq) osq = w4 at *;by_cases hz0 : z < 0
   ·have hz1 : decide (z < 0) = true := decide_eq_true hz0
    have HLT := hd_ (HZ0.out.1 hz0);rw [hz1];clear hz0 hz1;go_wp2_with fail
    go_roundg (q - i)
    case measure => have := Hg.out; omega
    case rel =>
     refine ⟨i, q, rfl, rfl, rfl, by omega, by omega, by omega, HLO.out, .inr ?_, HR2.out, HG2.out⟩;rw [HPC.out, HKX.out, HKY.out];exact Nat.le_of_lt HLT.out
   ·have hz1 : decide (z < 0) = false := decide_eq_false hz0
    have HLT : Hid (¬ cx.w < cy.w) := hd_ (fun h => hz0 (HZ0.out.2 h));rw [hz1];clear hz0 hz1;go_wp2_with fail
    go_roundg (j - (q + 1))
    case measure => have := Hg.out; omega
    case rel =>
     refine ⟨q + 1, j, rfl, by go_num, rfl, by omega, by omega, by omega, .inr ?_, HHI.out, HR2.out, HG2.out⟩;rw [Nat.add_sub_cancel, HPC.out, HKX.out, HKY.out];exact Nat.le_of_not_lt HLT.out
  ·have hij' : decide (i < j) = false := decide_eq_false hij
   obtain rfl : i = j := (by omega);clear hij hij' Hg;obtain ⟨en, hen⟩ : ∃ en, nn - i = en := ⟨_, rfl⟩;have se : (nn : Int) - (i : Int) = (en : Int) := (by have := HAR.out; have := HAS.out; omega);have hen1 : en <= y := (by have := HAR.out; have := HAS.out; omega);have him : i <= m := (by have := HAS.out; omega);have hmen : m <= en := (by have := HAR.out; have := HAS.out; omega);have HE2 : Hid (x <= i /\ i <= mid /\ mid <= en /\ mid = i + (en - m)) := hd_ (by have := HAR.out; have := HAS.out; omega);have HCU : Hid (so.Cut Cn.w (so.at' Cn.zero t) x m y i en) := hd_ (by
    have h1 := HAR.out;have h2 := HAS.out;refine ⟨⟨by omega, him⟩, ⟨hmen, hen1⟩, fun k1 k2 => ?_, fun k1 k2 => ?_⟩
    ·rcases HHI.out with h | h
     ·omega
     ·rwa [show pp - i = en - 1 by omega] at h
    ·rcases HLO.out with h | h
     ·omega
     ·rwa [show pp - (i - 1) = en by omega] at h)
   clear hen HLO HHI;go_upto_region 39 with (fail)
   go_cut [185] from 178 to 219 (fun s wx => s = .bool (decide (i < m /\ m < en)) /\ wr = wx)
   case first =>
    by_cases h1 : i < m
    ·have d1 : decide (i < m) = true := decide_eq_true h1
     by_cases h2 : m < en
     ·have d2 : decide (m < en) = true := decide_eq_true h2
      have D := hd_ (decide_eq_true (And.intro h1 h2));clear h1 h2;go_wp2_with fail
      go_meet
      exact ⟨by rw [D.out], rfl⟩
     ·have d2 : decide (m < en) = false := decide_eq_false h2
      have D := hd_ (decide_eq_false (fun h : i < m /\ m < en => h2 h.2));clear h1 h2;go_wp2_with fail
      go_meet
      exact ⟨by rw [D.out], rfl⟩
    ·have d1 : decide (i < m) = false := decide_eq_false h1
     have D := hd_ (decide_eq_false (fun h : i < m /\ m < en => h1 h.1));clear h1;go_wp2_with fail
     go_meet
     exact ⟨by rw [D.out], rfl⟩
   case rest =>
   obtain ⟨rfl, rfl⟩ := hcut
   go_upto_if 185 with (fail)
   go_cut [185] from 178 to 219 (fun _ wx => ∃ t2, so.PermIn Cn.zero x y t t2 /\ so.at' Cn.zero t2 = so.rot (so.at' Cn.zero t) i m en /\ RowK base wx b cap t2 /\ w.grownBy wx (some b))
   case first =>
    by_cases hcc : i < m /\ m < en
    ·rw [decide_eq_true hcc]
     have CS := hd_ (krotate_any base b cap t (.func (.func 139) #[] #[]) i m en _ HR1.out hcc.1 hcc.2 (by have := HN.out; omega) (by have := HN.out; omega));rw [HN.out] at CS;clear hcc;go_wp2_with fail
     refine CS.out.mono ?_;rintro e w6 ⟨rfl, t2, hm2, ha2, hr2, hg2⟩;have H2 := hd_ (And.intro hm2 (And.intro ha2 (And.intro hr2 hg2)));clear hm2 ha2 hr2 hg2 CS;go_wp2_with fail
     go_meet
     exact ⟨t2, H2.out.1.wide HE2.out.1 hen1, H2.out.2.1, H2.out.2.2.1, HG1.out.trans H2.out.2.2.2⟩
    ·rw [decide_eq_false hcc]
     have HNO : Hid (i = m \/ m = en) := hd_ (by omega);clear hcc;go_wp2_with fail
     go_meet
     exact ⟨t, so.PermIn.refl _ _ _ _, (so.rot_none _ HNO.out him hmen).symm, HR1.out, HG1.out⟩
   case rest =>
   obtain ⟨t2, hm2, ha2, hr2, hg2⟩ := hcut;have hh := HCU.out.halves HS1.out HS2.out mid HE2.out.2.2.2;rw [<- ha2] at hh;have HH := hd_ hh;clear HR1 HG1;have HM2 := hd_ hm2;have HR2 := hd_ hr2;have HG2 := hd_ hg2;have HL2 := hd_ (hm2.perm.length_eq.trans HN.out);clear hm2 ha2 hr2 hg2 hh;go_upto_region 41 with (fail)
   go_cut [199] from 192 to 219 (fun s wx => s = .bool (decide (x < i /\ i < mid)) /\ wc = wx)
   case first =>
    by_cases h1 : x < i
    ·have d1 : decide (x < i) = true := decide_eq_true h1
     by_cases h2 : i < mid
     ·have d2 : decide (i < mid) = true := decide_eq_true h2
      have D := hd_ (decide_eq_true (And.intro h1 h2));clear h1 h2;go_wp2_with fail
      go_meet
      exact ⟨by rw [D.out], rfl⟩
     ·have d2 : decide (i < mid) = false := decide_eq_false h2
      have D := hd_ (decide_eq_false (fun h : x < i /\ i < mid => h2 h.2));clear h1 h2;go_wp2_with fail
      go_meet
      exact ⟨by rw [D.out], rfl⟩
    ·have d1 : decide (x < i) = false := decide_eq_false h1
     have D := hd_ (decide_eq_false (fun h : x < i /\ i < mid => h1 h.1));clear h1;go_wp2_with fail
     go_meet
     exact ⟨by rw [D.out], rfl⟩
   case rest =>
   obtain ⟨rfl, rfl⟩ := hcut
   go_upto_if 199 with (fail)
   go_cut [199] from 192 to 219 (fun _ wx => ∃ t3, so.PermIn Cn.zero x mid t2 t3 /\ so.Srt Cn.w (so.at' Cn.zero t3) x mid /\ RowK base wx b cap t3 /\ w.grownBy wx (some b))
   case first =>
    by_cases hcc : x < i /\ i < mid
    ·rw [decide_eq_true hcc]
     have CS := hd_ (IH.out t2 x i mid _ (by have := HAR.out; omega) HR2.out hcc.1 hcc.2 (by have := HL2.out; omega) (by have := HL2.out; omega) HH.out.2.1 HH.out.2.2.1);rw [HL2.out] at CS;clear hcc;go_wp2_with fail
     refine CS.out.mono ?_;rintro e w6 ⟨rfl, t3, hm3, hs3, hr3, hg3⟩;have H3 := hd_ (And.intro hm3 (And.intro hs3 (And.intro hr3 hg3)));clear hm3 hs3 hr3 hg3 CS;go_wp2_with fail
     go_meet
     exact ⟨t3, H3.out.1, H3.out.2.1, H3.out.2.2.1, HG2.out.trans H3.out.2.2.2⟩
    ·rw [decide_eq_false hcc]
     have HNO : Hid (so.Srt Cn.w (so.at' Cn.zero t2) x mid) := hd_ (by
      have h1 := HE2.out;rcases (show i = x \/ i = mid by omega) with h | h
      ·have := HH.out.2.2.1
       rwa [h] at this
      ·have := HH.out.2.1
       rwa [h] at this)
     clear hcc;go_wp2_with fail
     go_meet
     exact ⟨t2, so.PermIn.refl _ _ _ _, HNO.out, HR2.out, HG2.out⟩
   case rest =>
   obtain ⟨t3, hm3, hs3, hr3, hg3⟩ := hcut;have hR1 : so.Srt Cn.w (so.at' Cn.zero t3) mid en := fun a c k1 k2 k3 => by
    show (t3.getD a Cn.zero).w <= (t3.getD c Cn.zero).w;rw [hm3.out a (by omega), hm3.out c (by omega)];exact HH.out.2.2.2.1 a c k1 k2 k3
   have hR2 : so.Srt Cn.w (so.at' Cn.zero t3) en y := fun a c k1 k2 k3 => by
    have h1 := HE2.out;show (t3.getD a Cn.zero).w <= (t3.getD c Cn.zero).w;rw [hm3.out a (by omega), hm3.out c (by omega)];exact HH.out.2.2.2.2 a c k1 k2 k3
   have HQ1 := hd_ hR1;have HQ2 := hd_ hR2;clear HR2 HG2;have HM3 := hd_ hm3;have HS3 := hd_ hs3;have HR3 := hd_ hr3;have HG3 := hd_ hg3;have HL3 := hd_ (hm3.perm.length_eq.trans HL2.out);clear hm3 hs3 hr3 hg3 hR1 hR2;go_upto_region 43 with (fail)
   go_cut [213] from 206 to 219 (fun s wx => s = .bool (decide (mid < en /\ en < y)) /\ wc = wx)
   case first =>
    by_cases h1 : mid < en
    ·have d1 : decide (mid < en) = true := decide_eq_true h1
     by_cases h2 : en < y
     ·have d2 : decide (en < y) = true := decide_eq_true h2
      have D := hd_ (decide_eq_true (And.intro h1 h2));clear h1 h2;go_wp2_with fail
      go_meet
      exact ⟨by rw [D.out], rfl⟩
     ·have d2 : decide (en < y) = false := decide_eq_false h2
      have D := hd_ (decide_eq_false (fun h : mid < en /\ en < y => h2 h.2));clear h1 h2;go_wp2_with fail
      go_meet
      exact ⟨by rw [D.out], rfl⟩
    ·have d1 : decide (mid < en) = false := decide_eq_false h1
     have D := hd_ (decide_eq_false (fun h : mid < en /\ en < y => h1 h.1));clear h1;go_wp2_with fail
     go_meet
     exact ⟨by rw [D.out], rfl⟩
   case rest =>
   obtain ⟨rfl, rfl⟩ := hcut
   go_upto_if 213 with (fail)
   by_cases hcc : mid < en /\ en < y
   ·rw [decide_eq_true hcc]
    have CS := hd_ (IH.out t3 mid en y _ (by have := HAR.out; omega) HR3.out hcc.1 hcc.2 (by have := HL3.out; omega) (by have := HL3.out; omega) HQ1.out HQ2.out);rw [HL3.out] at CS;clear hcc;go_wp2_with fail
    refine CS.out.mono ?_;rintro e w6 ⟨rfl, t4, hm4, hs4, hr4, hg4⟩;have H4 := hd_ (And.intro hm4 (And.intro hs4 (And.intro hr4 hg4)));clear hm4 hs4 hr4 hg4 CS;go_wp2_with fail
    refine bodyPost_end (results_none rfl _ _ _) rfl ?_;have ha := HAR.out;exact ⟨rfl, t4, HM2.out.trans ((HM3.out.wide (Nat.le_refl _) (by omega)).trans (H4.out.1.wide (by omega) (Nat.le_refl _))), so.join_halves (t := t2) (u := t3) (mid := mid) (by have := HL2.out; omega) (by omega) HH.out.1 HM3.out HS3.out H4.out.1 H4.out.2.1, H4.out.2.2.1, HG3.out.trans H4.out.2.2.2⟩
   ·rw [decide_eq_false hcc]
    have HNO : Hid (so.Srt Cn.w (so.at' Cn.zero t3) mid y) := hd_ (by
     have h1 := HE2.out;rcases (show en = mid \/ en = y by omega) with h | h
     ·have := HQ2.out
      rwa [h] at this
     ·have := HQ1.out
      rwa [h] at this)
    clear hcc;go_wp2_with fail
    refine bodyPost_end (results_none rfl _ _ _) rfl ?_;have ha := HAR.out;exact ⟨rfl, t3, HM2.out.trans (HM3.out.wide (Nat.le_refl _) (by omega)), so.join_halves (t := t2) (u := t3) (mid := mid) (by have := HL2.out; omega) (by omega) HH.out.1 HM3.out HS3.out (so.PermIn.refl _ _ _ _) HNO.out, HR3.out, HG3.out⟩
theorem kmerge_any (base b cap : Nat) : ∀ (sz : Nat) (t : List Cn) (x m y : Nat) (w : World), y - x <= sz -> RowK base w b cap t -> x < m -> m < y -> y <= t.length -> t.length <= 1099511627776 -> so.Srt Cn.w (so.at' Cn.zero t) x m -> so.Srt Cn.w (so.at' Cn.zero t) m y ->
  Calls Tryz.prog 176 #[.slice (some ⟨b, 0, none⟩) t.length cap, .int .i64 x, .int .i64 m, .int .i64 y, .func (.func 139) #[] #[]] w (SortPost base b cap x y t w)
 | 0, t, x, m, y, w, hsz, _, h1, h2, _, _, _, _ => by omega
 | sz + 1, t, x, m, y, w, hsz, h, hxm, hmy, hy, hl, hs1, hs2 => by
  by_cases hone : m - x = 1
  ·exact kmerge_one base b cap t x m y w h hxm hmy hy hl hs1 hs2 hone
  by_cases htwo : y - m = 1
  ·exact kmerge_two base b cap t x m y w h hxm hmy hy hl hs1 hs2 hone htwo
  exact kmerge_big base b cap t x m y w h hxm hmy hy hl hs1 hs2 hone htwo (fun t x' m' y' w h0 h1 h2 h3 h4 h5 h6 h7 => kmerge_any base b cap sz t x' m' y' w (by omega) h1 h2 h3 h4 h5 h6 h7)
end Go.Proofs.YthpckmcgbmfmcaaGreatDoor
