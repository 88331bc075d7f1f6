/- The walk of DctDivides. -/
import Derived.Test.YtdpccgnmlfakfaaDct13
import Derived.Test.YtdpccgnmlfakfaaDctLaw1
import Derived.Test.YtdpccgnmlfakfaaDctMath6
import Derived.BigQuiet
namespace Go.Proofs.Ytdpccgnmlfakfaa
open Go.RowKit

theorem wf64 {x : Int} (h : -4611686018427387904 ≤ x) (h' : x ≤ 4611686018427387904) : (Lit.int .i64 x).wf = true := by
  simp [Lit.wf, IntKind.min, IntKind.max, IntKind.bits, IntKind.signed]
  omega

set_option maxRecDepth 100000 in
set_option maxHeartbeats 6400000 in
theorem dctDivides_any (a1 : Option Addr) (n1 cap1 : Nat) (l1 : List Int) (a2 : Option Addr) (n2 cap2 : Nat) (l2 : List Int) (w : World) (h1 : Sl .i64 w a1 n1 cap1 l1) (hr1 : cap1 * Try.prog.bytesOf 3 ≤ reachBytes) (h2 : Sl .i64 w a2 n2 cap2 l2) (hr2 : cap2 * Try.prog.bytesOf 3 ≤ reachBytes) :
    Calls Try.prog 7 #[.slice a1 n1 cap1, .slice a2 n2 cap2] w fun e w' => e = .returned (.bool true) ∧ Below w.heap.size w w' := by
  have HN1 : Hid (n1 * 8 ≤ 140737488355328) := Lib.hid (reach_int h1.fits hr1)
  have HN2 : Hid (n2 * 8 ≤ 140737488355328) := Lib.hid (reach_int h2.fits hr2)
  have HM1 : Hid (n1 ≤ maxLen) := Lib.hid (Nat.le_trans h1.fits h1.most)
  have HM2 : Hid (n2 ≤ maxLen) := Lib.hid (Nat.le_trans h2.fits h2.most)
  have HQ : Hid (dm.twoE l1 l2 1048576 = 0 → l1.length = 64 ∧ l2.length = 64 ∧ dm.fitE l2 1 65535 = 0 ∧ dm.fitE l1 (-1048576) 1048576 = 0 ∧ ∀ x ∈ dm.twoL dm.divF l1 l2, -4194304 ≤ x ∧ x ≤ 4194304) := Lib.hid (fun h => by
    obtain ⟨q1, q2, q3, q4⟩ := dm.twoE_zero h
    exact ⟨q1, q2, q3, q4, dm.twoL_div_within h⟩)
  have P := Lib.hid h1
  have Q := Lib.hid h2
  clear h1 h2 hr1 hr2
  have CD := Lib.hid (fun (wx : World) (b1 b2 : Option Addr) (c1 c2 : Nat) (r1 : Rd .i64 wx b1 l1) (r2 : Rd .i64 wx b2 l2) => divide_any b1 b2 n1 n2 c1 c2 l1 l2 wx P.out.len Q.out.len HM1.out HM2.out r1 r2)
  have CR := Lib.hid (fun (wx : World) (b1 b2 : Option Addr) (c1 c2 : Nat) (r1 : Rd .i64 wx b1 l1) (r2 : Rd .i64 wx b2 l2) => refDivide_any b1 b2 n1 n2 c1 c2 l1 l2 wx P.out.len Q.out.len HM1.out HM2.out r1 r2)
  have CM := Lib.hid (fun (wx : World) (b1 b2 : Option Addr) (c1 c2 : Nat) (r1 : Rd .i64 wx b1 l1) (r2 : Rd .i64 wx b2 l2) => multiply_any b1 b2 n1 n2 c1 c2 l1 l2 wx P.out.len Q.out.len HM1.out HM2.out r1 r2)
  have CS := Lib.hid (fun (wx : World) (b1 b2 : Option Addr) (c1 c2 : Nat) (r1 : Rd .i64 wx b1 l1) (r2 : Rd .i64 wx b2 l2) => refMultiply_any b1 b2 n1 n2 c1 c2 l1 l2 wx P.out.len Q.out.len HM1.out HM2.out r1 r2)
  obtain ⟨E1, hE1⟩ : ∃ E1, E1 = dm.twoE l1 l2 1048576 := ⟨_, rfl⟩
  rw [← hE1] at CD CR HQ
  clear hE1
  generalize dm.twoE l1 l2 32768 = E2 at *
  go_enter Try.func7, Try.ntmps7
  go_wp2_with fail
  go_must (refine (wakes_any _).mono ?_)
  rintro e w1 ⟨rfl, hb1⟩
  have B := Lib.hid hb1
  have P1 := Lib.hid (P.out.below hb1)
  have Q1 := Lib.hid (Q.out.below hb1)
  clear hb1 P Q
  go_wp2_with fail
  go_must (refine (ownI_any a1 n1 cap1 l1 w1 P1.out HN1.out).mono ?_)
  rintro e w2 ⟨v, rfl, hv, hb2⟩
  obtain ⟨g2, c2, rfl, _, hl2, hc2, hm2, hr2, _⟩ := hv.open
  have B2 := Lib.hid (B.out.trans (hb2.mono B.out.size))
  have P2 := Lib.hid (P1.out.below hb2)
  have Q2 := Lib.hid (Q1.out.below hb2)
  have R2 := Lib.hid hr2
  clear hv hr2 hb2 B P1 Q1 hl2 hc2 hm2
  go_wp2_with fail
  go_must (refine (ownI_any a2 n2 cap2 l2 w2 Q2.out HN2.out).mono ?_)
  rintro e w3 ⟨v, rfl, hv, hb3⟩
  obtain ⟨g3, c3, rfl, _, hl3, hc3, hm3, hr3, _⟩ := hv.open
  have B3 := Lib.hid (B2.out.trans (hb3.mono B2.out.size))
  have P3 := Lib.hid (P2.out.below hb3)
  have Q3 := Lib.hid (Q2.out.below hb3)
  have R3 := Lib.hid hr3
  have R32 := Lib.hid (R2.out.below hb3)
  clear hv hr3 hb3 B2 P2 Q2 R2 hl3 hc3 hm3
  go_wp2_with fail
  go_must (refine (CD.out w3 _ _ c2 c3 R32.out R3.out).mono ?_)
  rintro e w4 hp
  obtain ⟨aX, nX, cX, lX, rfl, hlX, hcX, hmX, hrX, heX, hb4⟩ := hp.view
  have B4 := Lib.hid (B3.out.trans (hb4.mono B3.out.size))
  have P4 := Lib.hid (P3.out.below hb4)
  have Q4 := Lib.hid (Q3.out.below hb4)
  have X4 := Lib.hid hrX
  have EX := Lib.hid heX
  have LX := Lib.hid hlX
  have MX := Lib.hid hmX
  have KX : Hid (nX ≤ cX ∧ cX ≤ maxLen ∧ (aX = none → cX = 0)) := Lib.hid (by
    rcases hp.1 with ⟨_, h⟩ | ⟨_, v, h, hf⟩
    · cases h
      exact ⟨Nat.le_refl _, Nat.zero_le _, fun _ => rfl⟩
    · obtain ⟨g, cap, rfl, _, k1, k2, k3, _, _⟩ := hf.open
      cases h
      exact ⟨k2, k3, fun e => by cases e⟩)
  clear hp hrX heX hlX hmX hb4 B3 P3 Q3 R3 R32 hcX
  go_wp2_with fail
  go_must (refine (CR.out w4 a1 a2 cap1 cap2 P4.out.rd Q4.out.rd).mono ?_)
  rintro e w5 hp
  obtain ⟨aY, nY, cY, lY, rfl, hlY, hcY, hmY, hrY, heY, hb5⟩ := hp.view
  have B5 := Lib.hid (B4.out.trans (hb5.mono B4.out.size))
  have P5 := Lib.hid (P4.out.below hb5)
  have Q5 := Lib.hid (Q4.out.below hb5)
  have X5 := Lib.hid (X4.out.below hb5)
  have Y5 := Lib.hid hrY
  have EY := Lib.hid heY
  have LY := Lib.hid hlY
  have MY := Lib.hid hmY
  clear hp hrY heY hlY hmY hb5 B4 P4 Q4 X4 hcY
  go_wp2_with fail
  go_must (refine (ownI_any a1 n1 cap1 l1 w5 P5.out HN1.out).mono ?_)
  rintro e w6 ⟨v, rfl, hv, hb6⟩
  obtain ⟨g6, c6, rfl, _, hl6, hc6, hm6, hr6, _⟩ := hv.open
  have B6 := Lib.hid (B5.out.trans (hb6.mono B5.out.size))
  have P6 := Lib.hid (P5.out.below hb6)
  have Q6 := Lib.hid (Q5.out.below hb6)
  have X6 := Lib.hid (X5.out.below hb6)
  have Y6 := Lib.hid (Y5.out.below hb6)
  have R6 := Lib.hid hr6
  clear hv hr6 hb6 B5 P5 Q5 X5 Y5 hl6 hc6 hm6
  go_wp2_with fail
  go_must (refine (ownI_any a2 n2 cap2 l2 w6 Q6.out HN2.out).mono ?_)
  rintro e w7 ⟨v, rfl, hv, hb7⟩
  obtain ⟨g7, c7, rfl, _, hl7, hc7, hm7, hr7, _⟩ := hv.open
  have B7 := Lib.hid (B6.out.trans (hb7.mono B6.out.size))
  have P7 := Lib.hid (P6.out.below hb7)
  have Q7 := Lib.hid (Q6.out.below hb7)
  have X7 := Lib.hid (X6.out.below hb7)
  have Y7 := Lib.hid (Y6.out.below hb7)
  have R7 := Lib.hid hr7
  have R76 := Lib.hid (R6.out.below hb7)
  clear hv hr7 hb7 B6 P6 Q6 X6 Y6 R6 hl7 hc7 hm7
  go_wp2_with fail
  go_must (refine (CM.out w7 _ _ c6 c7 R76.out R7.out).mono ?_)
  rintro e w8 hp
  obtain ⟨aU, nU, cU, lU, rfl, hlU, hcU, hmU, hrU, heU, hb8⟩ := hp.view
  have B8 := Lib.hid (B7.out.trans (hb8.mono B7.out.size))
  have P8 := Lib.hid (P7.out.below hb8)
  have Q8 := Lib.hid (Q7.out.below hb8)
  have X8 := Lib.hid (X7.out.below hb8)
  have Y8 := Lib.hid (Y7.out.below hb8)
  have U8 := Lib.hid hrU
  have EU := Lib.hid heU
  have LU := Lib.hid hlU
  have MU := Lib.hid hmU
  clear hp hrU heU hlU hmU hb8 B7 P7 Q7 X7 Y7 R7 R76 hcU
  go_wp2_with fail
  go_must (refine (CS.out w8 a1 a2 cap1 cap2 P8.out.rd Q8.out.rd).mono ?_)
  rintro e w9 hp
  obtain ⟨aV, nV, cV, lV, rfl, hlV, hcV, hmV, hrV, heV, hb9⟩ := hp.view
  have B9 := Lib.hid (B8.out.trans (hb9.mono B8.out.size))
  have P9 := Lib.hid (P8.out.below hb9)
  have Q9 := Lib.hid (Q8.out.below hb9)
  have X9 := Lib.hid (X8.out.below hb9)
  have Y9 := Lib.hid (Y8.out.below hb9)
  have U9 := Lib.hid (U8.out.below hb9)
  have V9 := Lib.hid hrV
  have EV := Lib.hid heV
  have LV := Lib.hid hlV
  have MV := Lib.hid hmV
  clear hp hrV heV hlV hmV hb9 B8 P8 Q8 X8 Y8 U8 hcV
  clear CD CR CM CS
  go_wp2_with fail
  go_must (refine (sameInts_any aX aY nX nY cX cY lX lY w9 LX.out LY.out MX.out MY.out X9.out Y9.out).mono ?_)
  rw [decide_eq_true (EX.out.trans EY.out.symm)]
  rintro e w10 ⟨rfl, hb10⟩
  have B10 := Lib.hid (B9.out.trans (hb10.mono B9.out.size))
  have P10 := Lib.hid (P9.out.below hb10)
  have Q10 := Lib.hid (Q9.out.below hb10)
  have X10 := Lib.hid (X9.out.below hb10)
  have U10 := Lib.hid (U9.out.below hb10)
  have V10 := Lib.hid (V9.out.below hb10)
  clear hb10 B9 P9 Q9 X9 Y9 U9 V9
  go_wp2_with fail
  go_must (refine (sameInts_any aU aV nU nV cU cV lU lV w10 LU.out LV.out MU.out MV.out U10.out V10.out).mono ?_)
  rw [decide_eq_true (EU.out.trans EV.out.symm)]
  rintro e w11 ⟨rfl, hb11⟩
  have B11 := Lib.hid (B10.out.trans (hb11.mono B10.out.size))
  have P11 := Lib.hid (P10.out.below hb11)
  have Q11 := Lib.hid (Q10.out.below hb11)
  have X11 := Lib.hid (X10.out.below hb11)
  clear hb11 B10 P10 Q10 X10 U10 V10 LY MY EY LV MV EV LU MU EU
  by_cases hE1 : E1 = 0
  case neg =>
    go_wp2_with fail
    go_ret
    exact ⟨rfl, B11.out⟩
  subst hE1
  obtain ⟨q1, q2, q3, q4, q5⟩ := HQ.out rfl
  have heX := EX.out
  rw [if_pos rfl] at heX
  subst heX
  have hnX := LX.out
  rw [dm.twoL_length] at hnX
  subst hnX
  have hn1 : n1 = 64 := by have := P11.out.len; omega
  have hn2 : n2 = 64 := by have := Q11.out.len; omega
  subst hn1
  subst hn2
  have SX : Hid (Sl .i64 w11 aX 64 cX (dm.twoL dm.divF l1 l2)) := Lib.hid ⟨dm.twoL_length _ _ _, KX.out.1, KX.out.2.1, KX.out.2.2, fun x hx => by obtain ⟨y1, y2⟩ := q5 x hx; exact wf64 (by omega) (by omega), X11.out⟩
  have Q1 := Lib.hid q1
  have Q2 := Lib.hid q2
  have Q3 := Lib.hid (fun k hk => dm.fitE_at q3 k hk)
  have Q4 := Lib.hid (fun k hk => dm.fitE_at q4 k hk)
  clear q1 q2 q3 q4 q5 EX LX MX KX X11 HQ
  go_wp2_with fail
  go_must (refine (ownI_any aX 64 cX _ w11 SX.out (by decide)).mono ?_)
  rintro e w12 ⟨v, rfl, hv, hb12⟩
  obtain ⟨g12, c12, rfl, _, hl12, hc12, hm12, hr12, _⟩ := hv.open
  have B12 := Lib.hid (B11.out.trans (hb12.mono B11.out.size))
  have P12 := Lib.hid (P11.out.below hb12)
  have Q12 := Lib.hid (Q11.out.below hb12)
  have R12 := Lib.hid hr12
  clear hv hr12 hb12 B11 P11 Q11 SX hl12 hc12 hm12
  go_wp2_with fail
  go_must (refine (ownI_any a2 64 cap2 l2 w12 Q12.out (by decide)).mono ?_)
  rintro e w13 ⟨v, rfl, hv, hb13⟩
  obtain ⟨g13, c13, rfl, _, hl13, hc13, hm13, hr13, _⟩ := hv.open
  have B13 := Lib.hid (B12.out.trans (hb13.mono B12.out.size))
  have P13 := Lib.hid (P12.out.below hb13)
  have Q13 := Lib.hid (Q12.out.below hb13)
  have R13 := Lib.hid hr13
  have R132 := Lib.hid (R12.out.below hb13)
  clear hv hr13 hb13 B12 P12 Q12 R12 hl13 hc13 hm13
  go_wp2_with fail
  have HT := Lib.hid (dm.twoE_two (most := 32768) (dm.twoL_length dm.divF l1 l2) Q2.out)
  have CM := Lib.hid (multiply_any _ _ 64 64 c12 c13 (dm.twoL dm.divF l1 l2) l2 w13 (dm.twoL_length _ _ _) Q2.out (by decide) (by decide) R132.out R13.out)
  generalize dm.twoE (dm.twoL dm.divF l1 l2) l2 32768 = E3 at *
  go_must (refine CM.out.mono ?_)
  rintro e w14 hp
  obtain ⟨aZ, nZ, cZ, lZ, rfl, hlZ, hcZ, hmZ, hrZ, heZ, hb14⟩ := hp.view
  have B14 := Lib.hid (B13.out.trans (hb14.mono B13.out.size))
  have P14 := Lib.hid (P13.out.below hb14)
  have Q14 := Lib.hid (Q13.out.below hb14)
  have Z14 := Lib.hid hrZ
  have EZ := Lib.hid heZ
  have LZ := Lib.hid hlZ
  have KZ := Lib.hid hcZ
  clear hp hrZ heZ hlZ hmZ hb14 B13 P13 Q13 R13 R132 CM hcZ
  rcases HT.out with rfl | rfl
  case inr =>
    go_wp2_with fail
    go_ret
    exact ⟨rfl, B14.out⟩
  have heZ := EZ.out
  rw [if_pos rfl] at heZ
  subst heZ
  have hnZ := LZ.out
  rw [dm.twoL_length] at hnZ
  subst hnZ
  obtain ⟨bz, oz, rfl⟩ := Z14.out.at (by rw [dm.twoL_length]; decide)
  obtain ⟨b1, o1, rfl⟩ := P14.out.rd.at (by rw [Q1.out]; decide)
  obtain ⟨b2, o2, rfl⟩ := Q14.out.rd.at (by rw [Q2.out]; decide)
  clear EZ LZ HT
  go_wp2_with fail
  go_loopg [82] 64 (fun gk s wr => ∃ k : Nat, k ≤ 64 ∧ gk = 64 - k ∧ s = .int .i64 k ∧ Below w14.heap.size w14 wr)
  case atStart => exact ⟨0, by omega, rfl, rfl, Below.refl _ _⟩
  case round =>
    obtain ⟨k, hk, hg, rfl, hnx⟩ := hrel
    have Hg := Lib.hid hg
    have Hnx := Lib.hid hnx
    clear hg hnx
    by_cases hlt : k < 64
    · have x1 := (P14.out.rd.below Hnx.out).cell k (by rw [Q1.out]; exact hlt)
      have x2 := (Q14.out.rd.below Hnx.out).cell k (by rw [Q2.out]; exact hlt)
      have x3 := (Z14.out.below Hnx.out).cell k (by rw [dm.twoL_length]; exact hlt)
      rw [dm.twoL_getD _ _ _ _ hlt, dm.twoL_getD _ _ _ _ hlt] at x3
      obtain ⟨y1, y2⟩ := Q4.out k hlt
      obtain ⟨y3, y4⟩ := Q3.out k hlt
      obtain ⟨z1, z2⟩ := dm.div_back (l1.getD k 0) (l2.getD k 0) y3
      generalize dm.mulF (dm.divF (l1.getD k 0) (l2.getD k 0)) (l2.getD k 0) = bv at *
      generalize l1.getD k 0 = cv at *
      generalize l2.getD k 0 = qv at *
      have hk64 : (k : Int) < 64 := by omega
      have z3 : decide (qv < 2 * (bv - cv)) = false := decide_eq_false (by omega)
      have z4 : decide (qv < 2 * (cv - bv)) = false := decide_eq_false (by omega)
      go_wp2_with fail
      go_quiet (fail)
      go_wp2_with fail
      go_roundg (64 - (k + 1))
      case measure => have := Hg.out; omega
      case rel => exact ⟨k + 1, by omega, rfl, by go_num, below_drewN Hnx.out _⟩
    · obtain rfl : k = 64 := by omega
      have hb := B14.out.trans (Hnx.out.mono B14.out.size)
      have B15 := Lib.hid hb
      clear hb
      go_wp2_with fail
      go_ret
      exact ⟨rfl, B15.out⟩
end Go.Proofs.Ytdpccgnmlfakfaa
