/- The reference's Unfilter. -/
import Derived.Test.YtfaemhmefijaoaaDoorCkRefF
namespace Go.Proofs.YtfaemhmefijaoaaDoor
open Go.RowKit Go.Sort

namespace ck
theorem above_app {O U : List Int} {wn y : Nat} (hO : O.length = y * wn) : aboveOf wn (O ++ U) y = aboveOf wn O y := by
  unfold aboveOf
  split
  · rfl
  · rename_i h
    obtain ⟨k, rfl⟩ : ∃ k, y = k + 1 := ⟨y - 1, by omega⟩
    unfold rowOf
    rw [Nat.add_sub_cancel, List.drop_append_of_le_length (by rw [hO, Nat.succ_mul]; omega), List.take_append_of_le_length (by rw [List.length_drop, hO, Nat.succ_mul]; omega)]
theorem row_app {O U : List Int} {wn y : Nat} (hO : O.length = y * wn) (hU : U.length ≤ wn) : rowOf wn (O ++ U) y = U := by
  unfold rowOf
  rw [← hO, List.drop_left, List.take_of_length_le hU]
end ck
theorem own_sl {w : World} {base : Nat} {v : Value} {n : Nat} {l : List Int} (h : w.ownsRow base 5 1 v n (l.map (Value.int .u8))) (hw : ∀ x ∈ l, 0 ≤ x ∧ x < 256) : ∃ a cap, v = .slice a n cap ∧ Sl .u8 w a n cap l ∧ (n = 0 ∨ ∃ b, a = some ⟨b, 0, none⟩) := by
  rcases h.2 with ⟨rfl, rfl⟩ | ⟨g, cap, cur, rfl, _⟩
  · have hl : l = [] := List.eq_nil_of_length_eq_zero (by simpa using h.1)
    subst hl
    exact ⟨none, 0, rfl, ⟨rfl, Nat.le_refl _, Nat.zero_le _, fun _ => rfl, (fun x hx => nomatch hx), .inl rfl⟩, .inl rfl⟩
  · exact ⟨_, cap, rfl, Fresh.sl h (wf_of_bytes hw), .inr ⟨g, rfl⟩⟩

set_option maxRecDepth 100000 in
set_option maxHeartbeats 3200000 in
theorem refunf_yes (p : Option Addr) (n cap wn bn m : Nat) (l : List Int) (w : World) (h : Sl .u8 w p n cap l) (hw1 : 1 ≤ wn) (hw2 : wn ≤ 1048576) (hb1 : 1 ≤ bn) (hb2 : bn ≤ 8) (hnm : n = m * (wn + 1)) (hn : n ≤ 140737488355328) (E : Int) (O : List Int) (hE : E = if ck.kindsOk wn l m then 0 else 9) (hO : O = if ck.kindsOk wn l m then ck.unfTo wn bn l m else []) :
    Calls Tryd.prog 22 #[.slice p n cap, .int .i64 wn, .int .i64 bn] w (UnfPost E O w) := by
  have HE := Lib.hid hE
  have HO := Lib.hid hO
  have HM := Lib.hid h
  have HNM := Lib.hid hnm
  have HF : Hid ((!ck.fitB wn bn) = false) := Lib.hid (by rw [show ck.fitB wn bn = true from decide_eq_true ⟨by omega, by omega, by omega, by omega⟩]; rfl)
  have hsi : ((wn : Int) + 1) = ((wn + 1 : Nat) : Int) := by omega
  have hr : (n : Int) % ((wn : Int) + 1) = 0 := by
    rw [hsi, ← Int.natCast_emod, hnm, Nat.mul_mod_left]
    rfl
  have k3 : (((n : Int) % ((wn : Int) + 1)) != 0) = false := by rw [hr]; rfl
  have hmn : m ≤ n := by rw [hnm]; exact Nat.le_mul_of_pos_right _ (by omega)
  have hdv : (n : Int) / ((wn : Int) + 1) = (m : Int) := by rw [hsi, ← Int.natCast_ediv, hnm, Nat.mul_div_cancel _ (by omega)]
  have hq0 : ¬ (wn : Int) + 1 = 0 := by omega
  have hq1 : (n : Int).tdiv ((wn : Int) + 1) = (m : Int) := by rw [Int.tdiv_eq_ediv_of_nonneg (by omega), hdv]
  have hq2 : IntKind.i64.wrap ((n : Int).tdiv ((wn : Int) + 1)) = (m : Int) := by rw [hq1]; exact IntWalk.i64_in _ (by omega)
  have HLB : Hid (∀ x, ck.byteI (l.getD x 0)) := Lib.hid (fun x => byte_getD h.bytes x)
  clear h hnm hr hE hO hsi
  go_enter Tryd.func22, Tryd.ntmps22
  go_wp2_with fail
  refine (bad_any _ _ _).mono ?_
  rintro e w1 ⟨rfl, rfl⟩
  rw [HF.out]
  go_wp2_with fail
  go_loopg [8, 9] m (fun gk vo i wr => ∃ y : Nat, y ≤ m ∧ gk = m - y ∧ i = .int .i64 y ∧ wr.ownsRow w.heap.size 5 1 vo (y * wn) ((ck.unfTo wn bn l y).map (Value.int .u8)) ∧ ck.kindsOk wn l y ∧ Below w.heap.size w wr)
  case atStart => exact ⟨0, Nat.zero_le _, rfl, rfl, by rw [Nat.zero_mul]; exact World.ownsRow_nil _ _ _ _, (fun i hi => by omega), Below.refl _ _⟩
  case round =>
    obtain ⟨wo, hwo⟩ : ∃ x, x = wr := ⟨_, rfl⟩
    subst hwo
    obtain ⟨vq, hvq⟩ : ∃ x, x = u8 := ⟨_, rfl⟩
    subst hvq
    obtain ⟨y, hy, hg, rfl, hrow, hkk, hbl⟩ := hrel
    have Hg := Lib.hid hg
    have HB := Lib.hid hbl
    have HKK := Lib.hid hkk
    obtain ⟨o1, ho1⟩ : ∃ x, ck.unfTo wn bn l y = x := ⟨_, rfl⟩
    rw [ho1] at hrow
    have HO1 := Lib.hid ho1
    obtain ⟨yw, hyw⟩ : ∃ k, k = y * wn := ⟨_, rfl⟩
    rw [← hyw] at hrow
    have HYW := Lib.hid hyw
    have HRO := Lib.hid hrow
    have HOL : Hid (o1.length = y * wn) := Lib.hid (by rw [← ho1, ck.unfTo_length])
    have hms : m * wn + m = n := by rw [HNM.out, Nat.mul_succ]
    have hym : y * wn ≤ m * wn := Nat.mul_le_mul_right _ hy
    have hyn : yw ≤ n := by omega
    have HOB : Hid (∀ x ∈ o1, 0 ≤ x ∧ x < 256) := Lib.hid (by rw [← ho1]; exact ck.unfTo_byte _ _ _ _)
    clear hg hbl ho1 hrow hkk
    by_cases hlt : y < m
    · have hy2 : y * wn + wn ≤ m * wn := by
        have h1 : (y + 1) * wn ≤ m * wn := Nat.mul_le_mul_right _ hlt
        rw [Nat.succ_mul] at h1
        exact h1
      obtain ⟨ys, hys⟩ : ∃ k, k = y * (wn + 1) := ⟨_, rfl⟩
      have hys2 : ys + wn + 1 ≤ n := by
        have h1 : (y + 1) * (wn + 1) ≤ m * (wn + 1) := Nat.mul_le_mul_right _ hlt
        rw [Nat.succ_mul, ← hys, ← HNM.out] at h1
        omega
      have HYS := Lib.hid hys
      have hmul : (y : Int) * ((wn : Int) + 1) = (ys : Int) := by rw [hys]; push_cast; rfl
      have hmw : IntKind.i64.wrap ((y : Int) * ((wn : Int) + 1)) = (ys : Int) := by rw [hmul]; exact IntWalk.i64_in _ (by omega)
      have HSL := Lib.hid (HM.out.below HB.out)
      have hfit := HM.out.fits
      obtain ⟨b, off, hpb, hcell⟩ := HSL.out.cells (by omega)
      subst hpb
      have hck := hcell ys (by omega)
      obtain ⟨kd, hkd⟩ : ∃ z, l.getD ys 0 = z := ⟨_, rfl⟩
      rw [hkd] at hck
      have HKD : Hid (l.getD (y * (wn + 1)) 0 = kd) := Lib.hid (by rw [← hys]; exact hkd)
      have hkb := HLB.out ys
      rw [hkd] at hkb
      have HKB := Lib.hid hkb
      obtain ⟨hkb1, hkb2⟩ := hkb
      have hyn2 : yw + wn ≤ n := by omega
      have HCL := Lib.hid hcell
      clear hms hym hyw hy2 hys hcell hkd
      by_cases hk4 : kd ≤ 4
      · have hg4 : ¬ 4 < kd := by omega
        go_wp2_with fail
        obtain ⟨raw, hraw⟩ : ∃ x, (l.drop (y * (wn + 1) + 1)).take wn = x := ⟨_, rfl⟩
        have HRAW := Lib.hid hraw
        clear hraw
        go_loopg [8, 11] wn (fun gk vo i w3 => ∃ x : Nat, x ≤ wn ∧ gk = wn - x ∧ i = .int .i64 x ∧ w3.ownsRow w.heap.size 5 1 vo (yw + x) ((o1 ++ ck.uTo kd bn (ck.aboveOf wn o1 y) raw x).map (Value.int .u8)) ∧ Below w.heap.size w w3)
        case atStart => exact ⟨0, Nat.zero_le _, rfl, rfl, by rw [ck.uTo, List.append_nil]; exact HRO.out, HB.out⟩
        case round =>
          obtain ⟨x, hx, hg2, rfl, hrow2, hbl2⟩ := hrel
          have Hg2 := Lib.hid hg2
          have HB3 := Lib.hid hbl2
          have HR3 := Lib.hid hrow2
          by_cases hlx : x < wn
          · have hmul2 : (y : Int) * (wn : Int) = (yw : Int) := by rw [HYW.out]; push_cast; rfl
            have HMUL := Lib.hid hmul2
            obtain ⟨fb, hfb⟩ : ∃ z, z = (raw.getD x 0 + ck.gs kd (ck.px (ck.uTo kd bn (ck.aboveOf wn o1 y) raw x) x bn) ((ck.aboveOf wn o1 y).getD x 0) (ck.px (ck.aboveOf wn o1 y) x bn)) % 256 := ⟨_, rfl⟩
            have HFB := Lib.hid hfb
            have HLL : Hid (∀ v ∈ o1 ++ ck.uTo kd bn (ck.aboveOf wn o1 y) raw x, 0 ≤ v ∧ v < 256) := Lib.hid (fun v hv => by
              rcases List.mem_append.1 hv with h | h
              · exact HOB.out v h
              · exact ck.uTo_byte _ _ _ _ _ v h)
            obtain ⟨oa, oc, rfl, hos, _⟩ := own_sl hrow2 HLL.out
            have HOS := Lib.hid hos
            have hcx := (HM.out.below HB3.out).rd.cell (ys + 1 + x) (by rw [HM.out.len]; omega)
            have hrv : l.getD (ys + 1 + x) 0 = raw.getD x 0 := by rw [← HRAW.out, ck.getD_take_drop _ _ _ _ hlx, HYS.out]
            obtain ⟨rv, hrv2⟩ : ∃ z, raw.getD x 0 = z := ⟨_, rfl⟩
            have hrb := HLB.out (ys + 1 + x)
            rw [hrv, hrv2] at hcx hrb
            obtain ⟨hrb1, hrb2⟩ := hrb
            clear hfb hrv hg2 hrow2 hbl2 hos hck
            go_wp2_with fail
            refine (at_any _ _ _ _ _ _ _ _ HOS.out (by omega) (by omega) (by omega) (by omega) (by omega) (by omega) (fun _ _ => by have := HMUL.out; omega)).mono ?_
            rintro e w4 ⟨rfl, rfl⟩
            rw [ck.atI_row hlx, ck.row_app HOL.out (by rw [ck.uTo_length]; omega)]
            obtain ⟨pa, hpa⟩ : ∃ z, ck.px (ck.uTo kd bn (ck.aboveOf wn o1 y) raw x) x bn = z := ⟨_, rfl⟩
            rw [hpa]
            go_wp2_with fail
            refine (at_any _ _ _ _ _ _ _ _ HOS.out (by omega) (by omega) (by omega) (by omega) (by omega) (by omega) (fun _ _ => by have := HMUL.out; rw [Int.sub_mul]; omega)).mono ?_
            rintro e w4 ⟨rfl, rfl⟩
            rw [ck.atI_above hlx, ck.above_app HOL.out]
            obtain ⟨av, hav⟩ : ∃ z, (ck.aboveOf wn o1 y).getD x 0 = z := ⟨_, rfl⟩
            rw [hav]
            go_wp2_with fail
            refine (corner_any _ _ _ _ _ _ _ _ HOS.out (by omega) (by omega) (by omega) (by omega) (by omega) (by omega) (fun _ _ => by have := HMUL.out; rw [Int.sub_mul]; omega)).mono ?_
            rintro e w4 ⟨rfl, rfl⟩
            rw [ck.atI_corner hlx, ck.above_app HOL.out]
            obtain ⟨pc, hpc⟩ : ∃ z, ck.px (ck.aboveOf wn o1 y) x bn = z := ⟨_, rfl⟩
            rw [hpc]
            have HB1 : Hid (ck.byteI pa) := Lib.hid (by rw [← hpa]; exact ck.px_byte (fun z => byte_getD (ck.uTo_byte _ _ _ _ _) z))
            have HB2' : Hid (ck.byteI av) := Lib.hid (by rw [← hav]; exact ck.above_byte (fun z => byte_getD HOB.out z) x)
            have HB3' : Hid (ck.byteI pc) := Lib.hid (by rw [← hpc]; exact ck.px_byte (ck.above_byte (fun z => byte_getD HOB.out z)))
            have hfe : fb = (rv + ck.gs kd pa av pc) % 256 := by rw [HFB.out, hrv2, hpa, hav, hpc]
            clear hpa hav hpc hrv2
            go_wp2_with fail
            refine (refguess_any _ _ _ _ _ HKB.out HB1.out HB2'.out HB3'.out).mono ?_
            rintro e w4 ⟨rfl, rfl⟩
            obtain ⟨hg1, hg2⟩ := ck.gs_byte (k := kd) HB1.out HB2'.out HB3'.out
            obtain ⟨gv, hgv⟩ : ∃ z, ck.gs kd pa av pc = z := ⟨_, rfl⟩
            rw [hgv] at hfe hg1 hg2 ⊢
            have hfw : IntKind.u8.wrap (rv + gv) = fb := by rw [IntKind.wrap_u8, hfe]
            have HFBB : Hid (0 ≤ fb ∧ fb < 256) := Lib.hid (by omega)
            have HRU := Lib.hid (HR3.out.alloc (.cells #[.int .u8 fb] 5))
            have HSU : Hid (Sl .u8 (wr.alloc (.cells #[.int .u8 fb] 5)) (some ⟨wr.heap.size, 0, none⟩) 1 1 [fb]) := Lib.hid (sl_bytes wr [fb] 5 (0, 0) wr.heap.size rfl (by simp [maxLen]) (wf_of_bytes (fun x hx => by rw [List.mem_singleton.1 hx]; exact HFBB.out)))
            have SZU : w.heap.size ≤ (wr.alloc (.cells #[.int .u8 fb] 5)).heap.size := Nat.le_trans HB3.out.size (by simp)
            clear hfe hgv
            go_wp2_with (at_builtin; go_must (refine wpList_of_append rfl (.tmp 69) (.tmp 84) 22 22 rfl (run_append_sl _ _ w.heap.size (.slice oa (yw + x) oc) (yw + x) _ HRU.out (some ⟨wr.heap.size, 0, none⟩) 1 1 [fb] HSU.out (by omega) SZU) ?_; rintro v5 w5 ⟨ho5, hg5⟩; have HO5 := Lib.hid ho5; have HB5 := Lib.hid ((HB3.out.alloc HB3.out.size _).grown hg5 (HB3.out.alloc HB3.out.size (.cells #[.int .u8 fb] 5)).size (fun j e => (World.ownsRow.lt HRU.out j e).1)); clear ho5 hg5))
            have ho5 := HO5.out
            rw [List.append_assoc, HFB.out, ← ck.uTo_succ] at ho5
            go_roundg (wn - (x + 1))
            case measure => have := Hg2.out; omega
            case rel => exact ⟨x + 1, by omega, rfl, by go_num, ho5, HB5.out⟩
          · obtain rfl : x = wn := by omega
            clear hg2 hrow2 hbl2
            go_wp2_with fail
            have ho3 := HR3.out
            have hnx : ck.unfTo x bn l (y + 1) = o1 ++ ck.uTo kd bn (ck.aboveOf x o1 y) raw x := by rw [ck.unfTo_succ, HO1.out, HKD.out, HRAW.out]
            have hln : (y + 1) * x = yw + x := by rw [Nat.succ_mul, HYW.out]
            rw [← hnx] at ho3
            go_roundg (m - (y + 1))
            case measure => have := Hg.out; omega
            case rel => exact ⟨y + 1, by omega, rfl, by go_num, by rw [hln]; exact ho3, (fun i hi => by
              rcases Nat.lt_or_ge i y with h | h
              · exact HKK.out i h
              · obtain rfl : i = y := by omega
                rw [HKD.out]; exact hk4), HB3.out⟩
      · have hg4 : 4 < kd := by omega
        have hno : ¬ ck.kindsOk wn l m := fun h => hk4 (by rw [← HKD.out]; exact h y hlt)
        have HE9 : Hid (E = 9) := Lib.hid (by rw [HE.out, if_neg hno])
        have HO9 : Hid (O = []) := Lib.hid (by rw [HO.out, if_neg hno])
        clear hk4 hno
        go_wp2_with fail
        go_ret2
        rw [HE9.out, HO9.out]
        exact UnfPost.no HB.out
    · obtain rfl : y = m := by omega
      go_wp2_with fail
      go_ret2
      exact ⟨vq, by rw [HE.out, if_pos HKK.out]; rfl, by rw [HO.out, if_pos HKK.out, HO1.out, HOL.out, ← HYW.out]; exact HRO.out, HB.out⟩

set_option maxRecDepth 100000 in
set_option maxHeartbeats 1600000 in
theorem refunf_any (p : Option Addr) (n cap : Nat) (width bpp : Int) (l : List Int) (w : World) (h : Sl .u8 w p n cap l) (hn : n ≤ 140737488355328) :
    Calls Tryd.prog 22 #[.slice p n cap, .int .i64 width, .int .i64 bpp] w (UnfPost (ck.unfErr width bpp l) (ck.unfOut width bpp l) w) := by
  by_cases hf : ck.fitB width bpp = true
  · obtain ⟨q1, q2, q3, q4⟩ := of_decide_eq_true hf
    obtain ⟨wn, rfl⟩ : ∃ wn : Nat, width = wn := ⟨width.toNat, by omega⟩
    obtain ⟨bn, rfl⟩ : ∃ bn : Nat, bpp = bn := ⟨bpp.toNat, by omega⟩
    by_cases hm : n % (wn + 1) = 0
    · have hd := Nat.div_add_mod n (wn + 1)
      rw [hm, Nat.add_zero, Nat.mul_comm] at hd
      refine refunf_yes p n cap wn bn (n / (wn + 1)) l w h (by omega) (by omega) (by omega) (by omega) hd.symm hn _ _ ?_ ?_
      · unfold ck.unfErr
        rw [if_pos hf, Int.toNat_natCast, h.len]
        by_cases hk : ck.kindsOk wn l (n / (wn + 1))
        · rw [if_pos hk, if_pos ⟨hm, hk⟩]
        · rw [if_neg hk, if_neg (fun h => hk h.2)]
      · unfold ck.unfOut ck.unfErr
        rw [if_pos hf, Int.toNat_natCast, Int.toNat_natCast, h.len]
        by_cases hk : ck.kindsOk wn l (n / (wn + 1))
        · simp [hm, hk]
        · simp [hm, hk]
    · have HE : Hid (ck.unfErr wn bn l = 9) := Lib.hid (by unfold ck.unfErr; rw [if_pos hf, Int.toNat_natCast, h.len, if_neg (fun h => hm h.1)])
      have HO : Hid (ck.unfOut wn bn l = []) := Lib.hid (by unfold ck.unfOut; rw [HE.out]; rfl)
      rw [HE.out, HO.out]
      have HF : Hid ((!ck.fitB wn bn) = false) := Lib.hid (by rw [hf]; rfl)
      have k3 : (((n : Int) % ((wn : Int) + 1)) != 0) = true := by
        rw [show ((wn : Int) + 1) = ((wn + 1 : Nat) : Int) by omega, ← Int.natCast_emod]
        simp only [bne_iff_ne, ne_eq]
        omega
      have hfit := h.fits
      clear hf hm HE HO
      go_enter Tryd.func22, Tryd.ntmps22
      go_wp2_with fail
      refine (bad_any _ _ _).mono ?_
      rintro e w1 ⟨rfl, rfl⟩
      rw [HF.out]
      go_wp2_with fail
      go_ret2
      exact UnfPost.no (Below.refl _ _)
  · have HE : Hid (ck.unfErr width bpp l = 190) := Lib.hid (by unfold ck.unfErr; rw [if_neg hf])
    have HO : Hid (ck.unfOut width bpp l = []) := Lib.hid (by unfold ck.unfOut; rw [HE.out]; rfl)
    rw [HE.out, HO.out]
    have HF : Hid ((!ck.fitB width bpp) = true) := Lib.hid (by simpa using hf)
    clear hf HE HO
    go_enter Tryd.func22, Tryd.ntmps22
    go_wp2_with fail
    refine (bad_any _ _ _).mono ?_
    rintro e w1 ⟨rfl, rfl⟩
    rw [HF.out]
    go_wp2_with fail
    go_ret2
    exact UnfPost.no (Below.refl _ _)
end Go.Proofs.YtfaemhmefijaoaaDoor
