/- The reference's Filter and Unfilter. -/
import Derived.Test.YtfaemhmefijaoaaDoorCkCrit
import Derived.Test.YtfaemhmefijaoaaDoorCkUnf
namespace Go.Proofs.YtfaemhmefijaoaaDoor
open Go.RowKit Go.Sort

namespace ck
theorem getD_take_drop (l : List Int) (a w x : Nat) (hx : x < w) : ((l.drop a).take w).getD x 0 = l.getD (a + x) 0 := by
  rw [List.getD_eq_getElem?_getD, List.getD_eq_getElem?_getD, List.getElem?_take, if_pos hx, List.getElem?_drop]
theorem above_getD (l : List Int) (wn y x : Nat) (hx : x < wn) : (aboveOf wn l y).getD x 0 = if y = 0 then 0 else l.getD ((y - 1) * wn + x) 0 := by
  unfold aboveOf
  by_cases h : y = 0
  · rw [if_pos h, if_pos h, List.getD_eq_getElem?_getD, List.getElem?_replicate, if_pos hx]
    rfl
  · rw [if_neg h, if_neg h]
    exact getD_take_drop _ _ _ _ hx
theorem atI_row {l : List Int} {wn bn y x : Nat} (hx : x < wn) : atI l wn ((x : Int) - bn) y = px (rowOf wn l y) x bn := by
  unfold atI px
  by_cases h : bn ≤ x
  · rw [if_neg (by omega), if_pos h]
    unfold rowOf
    rw [getD_take_drop _ _ _ _ (by omega)]
    congr 1
    have : ((y * wn : Nat) : Int) = (y : Int) * (wn : Int) := by push_cast; rfl
    omega
  · rw [if_pos (by omega), if_neg h]
theorem atI_above {l : List Int} {wn y x : Nat} (hx : x < wn) : atI l wn x ((y : Int) - 1) = (aboveOf wn l y).getD x 0 := by
  rw [above_getD _ _ _ _ hx]
  unfold atI
  by_cases h : y = 0
  · rw [if_pos (by omega), if_pos h]
  · rw [if_neg (by omega), if_neg h]
    obtain ⟨k, rfl⟩ : ∃ k, y = k + 1 := ⟨y - 1, by omega⟩
    congr 1
    rw [Nat.add_sub_cancel, show ((k + 1 : Nat) : Int) - 1 = (k : Int) by omega]
    have : ((k * wn : Nat) : Int) = (k : Int) * (wn : Int) := by push_cast; rfl
    omega
theorem atI_corner {l : List Int} {wn bn y x : Nat} (hx : x < wn) : atI l wn ((x : Int) - bn) ((y : Int) - 1) = px (aboveOf wn l y) x bn := by
  unfold px
  by_cases h : bn ≤ x
  · rw [if_pos h, ← atI_above (by omega)]
    congr 1
    omega
  · rw [if_neg h]
    unfold atI
    rw [if_pos (by omega)]
theorem px_byte {l : List Int} {x bn : Nat} (h : ∀ x, byteI (l.getD x 0)) : byteI (px l x bn) := by
  unfold px
  split
  · exact h _
  · exact ⟨by decide, by decide⟩
theorem above_byte {l : List Int} {wn y : Nat} (h : ∀ x, byteI (l.getD x 0)) : ∀ x, byteI ((aboveOf wn l y).getD x 0) := fun x => by
  by_cases hx : x < wn
  · rw [above_getD _ _ _ _ hx]
    split
    · exact ⟨by decide, by decide⟩
    · exact h _
  · have hl : (aboveOf wn l y).length ≤ wn := by
      unfold aboveOf rowOf
      split
      · simp
      · rw [List.length_take]; omega
    rw [List.getD_eq_getElem?_getD, List.getElem?_eq_none (by omega)]
    exact ⟨by decide, by decide⟩
end ck

set_option maxRecDepth 100000 in
set_option maxHeartbeats 3200000 in
theorem reffilter_yes (p : Option Addr) (n cap wn bn kd m : Nat) (l : List Int) (w : World) (h : Sl .u8 w p n cap l) (hw1 : 1 ≤ wn) (hw2 : wn ≤ 1048576) (hb1 : 1 ≤ bn) (hb2 : bn ≤ 8) (hk : kd ≤ 4) (hnm : n = m * wn) (hn : n ≤ 35184372088832) :
    Calls Tryd.prog 20 #[.slice p n cap, .int .i64 wn, .int .i64 bn, .int .i64 kd] w (FilterPost (some (ck.filtTo wn bn kd l m)) w) := by
  have HM := Lib.hid h
  have HNM := Lib.hid hnm
  have HF : Hid ((!ck.fitB wn bn) = false) := Lib.hid (by rw [show ck.fitB wn bn = true from decide_eq_true ⟨by omega, by omega, by omega, by omega⟩]; rfl)
  have k1 : decide ((kd : Int) < 0) = false := by simp
  have k2 : decide (4 < (kd : Int)) = false := by simp; omega
  have hr : (n : Int) % (wn : Int) = 0 := by
    rw [← Int.natCast_emod, hnm, Nat.mul_mod_left]
    rfl
  have k3 : (((n : Int) % (wn : Int)) != 0) = false := by rw [hr]; rfl
  have hmn : m ≤ n := by rw [hnm]; exact Nat.le_mul_of_pos_right _ hw1
  have hdv : (n : Int) / (wn : Int) = (m : Int) := by rw [← Int.natCast_ediv, hnm, Nat.mul_div_cancel _ (by omega)]
  have hq0 : ¬ (wn : Int) = 0 := by omega
  have hq1 : (n : Int).tdiv (wn : Int) = (m : Int) := by rw [Int.tdiv_eq_ediv_of_nonneg (by omega), hdv]
  have hq2 : IntKind.i64.wrap ((n : Int).tdiv (wn : Int)) = (m : Int) := by rw [hq1]; exact IntWalk.i64_in _ (by omega)
  have HKW : Hid (IntKind.u8.wrap (kd : Int) = kd) := Lib.hid (by rw [IntKind.wrap_u8]; omega)
  have HKB : Hid (ck.byteI kd) := Lib.hid ⟨by omega, by omega⟩
  have HLB : Hid (∀ x, ck.byteI (l.getD x 0)) := Lib.hid (fun x => byte_getD h.bytes x)
  clear h hnm hr
  go_enter Tryd.func20, Tryd.ntmps20
  go_wp2_with fail
  refine (bad_any _ _ _).mono ?_
  rintro e w1 ⟨rfl, rfl⟩
  rw [HF.out]
  go_wp2_with fail
  go_loopg [10, 11] m (fun gk vo i wr => ∃ y : Nat, y ≤ m ∧ gk = m - y ∧ i = .int .i64 y ∧ wr.ownsRow w.heap.size 5 1 vo (ck.filtTo wn bn kd l y).length ((ck.filtTo wn bn kd l y).map (Value.int .u8)) ∧ Below w.heap.size w wr)
  case atStart => exact ⟨0, Nat.zero_le _, rfl, rfl, World.ownsRow_nil _ _ _ _, Below.refl _ _⟩
  case round =>
    obtain ⟨wo, hwo⟩ : ∃ x, x = wr := ⟨_, rfl⟩
    subst hwo
    obtain ⟨vq, hvq⟩ : ∃ x, x = u10 := ⟨_, rfl⟩
    subst hvq
    obtain ⟨y, hy, hg, rfl, hrow, hbl⟩ := hrel
    have Hg := Lib.hid hg
    have HB := Lib.hid hbl
    obtain ⟨o1, ho1⟩ : ∃ x, ck.filtTo wn bn kd l y = x := ⟨_, rfl⟩
    rw [ho1] at hrow
    have HO1 := Lib.hid ho1
    have HRO := Lib.hid hrow
    obtain ⟨k, hk0⟩ : ∃ k, k = o1.length := ⟨_, rfl⟩
    have hkl : k = y * (wn + 1) := by rw [hk0, ← ho1, ck.filtTo_length]
    have hkm : y * (wn + 1) ≤ m * (wn + 1) := Nat.mul_le_mul_right _ hy
    have hmm : m * (wn + 1) = n + m := by rw [HNM.out, Nat.mul_succ]
    have HKL : Hid (k = o1.length) := Lib.hid hk0
    have HRK : Hid (wo.ownsRow w.heap.size 5 1 vq k (o1.map (Value.int .u8))) := Lib.hid (by rw [hk0]; exact hrow)
    have hks : k ≤ n + m := by omega
    have SZ1 : Hid (w.heap.size ≤ wo.heap.size) := Lib.hid hbl.size
    clear hg hbl ho1 hrow hkl hkm hmm hk0
    by_cases hlt : y < m
    · have hyw : y * wn + wn ≤ n := by
        have h1 : (y + 1) * wn ≤ m * wn := Nat.mul_le_mul_right _ hlt
        rw [Nat.succ_mul, ← HNM.out] at h1
        exact h1
      obtain ⟨yw, hywe⟩ : ∃ x : Nat, x = y * wn := ⟨_, rfl⟩
      rw [← hywe] at hyw
      have HYW := Lib.hid hywe
      clear hywe
      have HRU := Lib.hid (HRK.out.alloc (.cells #[.int .u8 kd] 5))
      have HSU : Hid (Sl .u8 (wo.alloc (.cells #[.int .u8 kd] 5)) (some ⟨wo.heap.size, 0, none⟩) 1 1 [(kd : Int)]) := Lib.hid (sl_bytes wo [(kd : Int)] 5 (0, 0) wo.heap.size rfl (by simp [maxLen]) (wf_of_bytes (fun x hx => by rw [List.mem_singleton.1 hx]; exact HKB.out)))
      have SZU : w.heap.size ≤ (wo.alloc (.cells #[.int .u8 kd] 5)).heap.size := Nat.le_trans SZ1.out (by simp)
      have q7 := HKW.out
      go_wp2_with (at_builtin; go_must (refine wpList_of_append rfl (.tmp 40) (.tmp 43) 22 22 rfl (run_append_sl _ _ w.heap.size vq k _ HRU.out (some ⟨wo.heap.size, 0, none⟩) 1 1 [(kd : Int)] HSU.out (by omega) SZU) ?_; rintro v2 w2 ⟨ho2, hg2⟩; have HO2 := Lib.hid ho2; have HB2 := Lib.hid ((HB.out.alloc HB.out.size _).grown hg2 (HB.out.alloc HB.out.size (.cells #[.int .u8 kd] 5)).size (fun j e => (World.ownsRow.lt HRU.out j e).1)); clear ho2 hg2))
      clear HRU HSU SZU q7
      go_loopg [10, 12] wn (fun gk vo i w3 => ∃ x : Nat, x ≤ wn ∧ gk = wn - x ∧ i = .int .i64 x ∧ w3.ownsRow w.heap.size 5 1 vo (k + 1 + x) ((o1 ++ ck.fTo kd bn (ck.aboveOf wn l y) (ck.rowOf wn l y) x).map (Value.int .u8)) ∧ Below w.heap.size w w3)
      case atStart => exact ⟨0, Nat.zero_le _, rfl, rfl, HO2.out, HB2.out⟩
      case round =>
        obtain ⟨x, hx, hg2, rfl, hrow2, hbl2⟩ := hrel
        have Hg2 := Lib.hid hg2
        have HB3 := Lib.hid hbl2
        have HR3 := Lib.hid hrow2
        clear hg2 hbl2 hrow2
        by_cases hlx : x < wn
        · have hmul : (y : Int) * (wn : Int) = (yw : Int) := by rw [HYW.out]; push_cast; rfl
          have hmw : IntKind.i64.wrap ((y : Int) * (wn : Int)) = (yw : Int) := by rw [hmul]; exact IntWalk.i64_in _ (by omega)
          have HMUL := Lib.hid hmul
          obtain ⟨fb, hfb⟩ : ∃ z, z = ck.fByte kd bn (ck.aboveOf wn l y) (ck.rowOf wn l y) x := ⟨_, rfl⟩
          have HFB := Lib.hid hfb
          have HSL := Lib.hid (HM.out.below HB3.out)
          have hfit := HM.out.fits
          obtain ⟨b, off, hpb, hcell⟩ := HSL.out.cells (by omega)
          have hcx := hcell (yw + x) (by omega)
          have hrv : l.getD (yw + x) 0 = (ck.rowOf wn l y).getD x 0 := by
            unfold ck.rowOf
            rw [ck.getD_take_drop _ _ _ _ hlx, HYW.out]
          rw [hrv] at hcx
          obtain ⟨rv, hrv2⟩ : ∃ z, (ck.rowOf wn l y).getD x 0 = z := ⟨_, rfl⟩
          rw [hrv2] at hcx
          have hrb := HLB.out (yw + x)
          rw [hrv, hrv2] at hrb
          obtain ⟨hrb1, hrb2⟩ := hrb
          subst hpb
          clear hcell hfb hrv
          go_wp2_with fail
          refine (at_any _ _ _ _ _ _ _ _ HSL.out (by omega) (by omega) (by omega) (by omega) (by omega) (by omega) (fun _ _ => by have := HMUL.out; omega)).mono ?_
          rintro e w4 ⟨rfl, rfl⟩
          rw [ck.atI_row hlx]
          obtain ⟨pa, hpa⟩ : ∃ z, ck.px (ck.rowOf wn l y) x bn = z := ⟨_, rfl⟩
          rw [hpa]
          go_wp2_with fail
          refine (at_any _ _ _ _ _ _ _ _ HSL.out (by omega) (by omega) (by omega) (by omega) (by omega) (by omega) (fun _ _ => by have := HMUL.out; rw [Int.sub_mul]; omega)).mono ?_
          rintro e w4 ⟨rfl, rfl⟩
          rw [ck.atI_above hlx]
          obtain ⟨av, hav⟩ : ∃ z, (ck.aboveOf wn l y).getD x 0 = z := ⟨_, rfl⟩
          rw [hav]
          go_wp2_with fail
          refine (corner_any _ _ _ _ _ _ _ _ HSL.out (by omega) (by omega) (by omega) (by omega) (by omega) (by omega) (fun _ _ => by have := HMUL.out; rw [Int.sub_mul]; omega)).mono ?_
          rintro e w4 ⟨rfl, rfl⟩
          rw [ck.atI_corner hlx]
          obtain ⟨pc, hpc⟩ : ∃ z, ck.px (ck.aboveOf wn l y) x bn = z := ⟨_, rfl⟩
          rw [hpc]
          have hB1 : ck.byteI pa := by
            rw [← hpa]
            exact ck.px_byte (fun z => byte_getD (fun v hv => HM.out.bytes v (List.mem_of_mem_drop (List.mem_of_mem_take hv))) z)
          have hB2 : ck.byteI av := by rw [← hav]; exact ck.above_byte HLB.out x
          have hB3 : ck.byteI pc := by rw [← hpc]; exact ck.px_byte (ck.above_byte HLB.out)
          have HB1 := Lib.hid hB1
          have HB2' := Lib.hid hB2
          have HB3' := Lib.hid hB3
          have hfe : fb = (rv - ck.gs kd pa av pc) % 256 := by rw [HFB.out]; unfold ck.fByte; rw [hrv2, hpa, hav, hpc]
          clear hB1 hB2 hB3 hpa hav hpc hrv2
          go_wp2_with fail
          refine (refguess_any _ _ _ _ _ HKB.out HB1.out HB2'.out HB3'.out).mono ?_
          rintro e w4 ⟨rfl, rfl⟩
          obtain ⟨hg1, hg2⟩ := ck.gs_byte (k := kd) HB1.out HB2'.out HB3'.out
          obtain ⟨gv, hgv⟩ : ∃ z, ck.gs kd pa av pc = z := ⟨_, rfl⟩
          rw [hgv] at hfe hg1 hg2 ⊢
          have hfw : IntKind.u8.wrap (rv - gv) = fb := by rw [IntKind.wrap_u8, hfe]
          have HFBB : Hid (0 ≤ fb ∧ fb < 256) := Lib.hid (by omega)
          have HRU := Lib.hid (HR3.out.alloc (.cells #[.int .u8 fb] 5))
          have HSU : Hid (Sl .u8 (wr.alloc (.cells #[.int .u8 fb] 5)) (some ⟨wr.heap.size, 0, none⟩) 1 1 [fb]) := Lib.hid (sl_bytes wr [fb] 5 (0, 0) wr.heap.size rfl (by simp [maxLen]) (wf_of_bytes (fun x hx => by rw [List.mem_singleton.1 hx]; exact HFBB.out)))
          have SZU : w.heap.size ≤ (wr.alloc (.cells #[.int .u8 fb] 5)).heap.size := Nat.le_trans HB3.out.size (by simp)
          clear hfe hgv
          go_wp2_with (at_builtin; go_must (refine wpList_of_append rfl (.tmp 73) (.tmp 86) 22 22 rfl (run_append_sl _ _ w.heap.size u10 (k + 1 + x) _ HRU.out (some ⟨wr.heap.size, 0, none⟩) 1 1 [fb] HSU.out (by omega) SZU) ?_; rintro v5 w5 ⟨ho5, hg5⟩; have HO5 := Lib.hid ho5; have HB5 := Lib.hid ((HB3.out.alloc HB3.out.size _).grown hg5 (HB3.out.alloc HB3.out.size (.cells #[.int .u8 fb] 5)).size (fun j e => (World.ownsRow.lt HRU.out j e).1)); clear ho5 hg5))
          have ho5 := HO5.out
          rw [List.append_assoc, HFB.out, ← ck.fTo_succ] at ho5
          go_roundg (wn - (x + 1))
          case measure => have := Hg2.out; omega
          case rel => exact ⟨x + 1, by omega, rfl, by go_num, ho5, HB5.out⟩
        · obtain rfl : x = wn := by omega
          go_wp2_with fail
          have ho3 := HR3.out
          have hnx : ck.filtTo x bn kd l (y + 1) = o1 ++ ck.fTo kd bn (ck.aboveOf x l y) (ck.rowOf x l y) x := by rw [ck.filtTo_succ, HO1.out]
          have hln : (ck.filtTo x bn kd l (y + 1)).length = k + 1 + x := by rw [hnx, List.length_append, ck.fTo_length, HKL.out]; omega
          rw [← hnx] at ho3
          go_roundg (m - (y + 1))
          case measure => have := Hg.out; omega
          case rel => exact ⟨y + 1, by omega, rfl, by go_num, by rw [hln]; exact ho3, HB3.out⟩
    · obtain rfl : y = m := by omega
      go_wp2_with fail
      go_ret2
      exact ⟨vq, rfl, by rw [HO1.out]; exact HRO.out, HB.out⟩

set_option maxRecDepth 100000 in
set_option maxHeartbeats 1600000 in
theorem reffilter_no (width bpp kind : Int) (p : Option Addr) (n cap : Nat) (w : World) (hn : n ≤ 140737488355328) (hok : ¬ ck.filtOk n width bpp kind) :
    Calls Tryd.prog 20 #[.slice p n cap, .int .i64 width, .int .i64 bpp, .int .i64 kind] w (FilterPost none w) := by
  by_cases h1 : ck.fitB width bpp = true
  · obtain ⟨q1, q2, q3, q4⟩ := of_decide_eq_true h1
    have HF : Hid ((!ck.fitB width bpp) = false) := Lib.hid (by rw [h1]; rfl)
    obtain ⟨wn, rfl⟩ : ∃ wn : Nat, width = wn := ⟨width.toNat, by omega⟩
    by_cases h2 : kind < 0
    · have k1 : decide (kind < 0) = true := by simpa using h2
      clear h1 hok
      go_enter Tryd.func20, Tryd.ntmps20
      go_wp2_with fail
      refine (bad_any _ _ _).mono ?_
      rintro e w1 ⟨rfl, rfl⟩
      rw [HF.out]
      go_wp2_with fail
      go_ret2
      exact ⟨rfl, Below.refl _ _⟩
    · have k1 : decide (kind < 0) = false := by simpa using h2
      by_cases h3 : 4 < kind
      · have k2 : decide (4 < kind) = true := by simpa using h3
        clear h1 hok
        go_enter Tryd.func20, Tryd.ntmps20
        go_wp2_with fail
        refine (bad_any _ _ _).mono ?_
        rintro e w1 ⟨rfl, rfl⟩
        rw [HF.out]
        go_wp2_with fail
        go_ret2
        exact ⟨rfl, Below.refl _ _⟩
      · have k2 : decide (4 < kind) = false := by simpa using h3
        have h4 : ¬ n % wn = 0 := fun h => hok ⟨h1, by omega, by omega, by simpa using h⟩
        have k3 : (((n : Int) % (wn : Int)) != 0) = true := by
          have : ((n : Int) % (wn : Int)) = ((n % wn : Nat) : Int) := by omega
          rw [this]
          simp
          omega
        clear h1 hok h4
        go_enter Tryd.func20, Tryd.ntmps20
        go_wp2_with fail
        refine (bad_any _ _ _).mono ?_
        rintro e w1 ⟨rfl, rfl⟩
        rw [HF.out]
        go_wp2_with fail
        go_ret2
        exact ⟨rfl, Below.refl _ _⟩
  · have HF : Hid ((!ck.fitB width bpp) = true) := Lib.hid (by simpa using h1)
    clear h1 hok
    go_enter Tryd.func20, Tryd.ntmps20
    go_wp2_with fail
    refine (bad_any _ _ _).mono ?_
    rintro e w1 ⟨rfl, rfl⟩
    rw [HF.out]
    go_wp2_with fail
    go_ret2
    exact ⟨rfl, Below.refl _ _⟩
theorem reffilter_any (p : Option Addr) (n cap : Nat) (width bpp kind : Int) (l : List Int) (w : World) (h : Sl .u8 w p n cap l) (hn : n ≤ 35184372088832) :
    Calls Tryd.prog 20 #[.slice p n cap, .int .i64 width, .int .i64 bpp, .int .i64 kind] w (FilterPost (ck.filtR width bpp kind l) w) := by
  unfold ck.filtR
  rw [h.len]
  by_cases hok : ck.filtOk n width bpp kind
  · rw [if_pos hok]
    obtain ⟨h1, h2, h3, h4⟩ := hok
    obtain ⟨q1, q2, q3, q4⟩ := of_decide_eq_true h1
    obtain ⟨wn, rfl⟩ : ∃ wn : Nat, width = wn := ⟨width.toNat, by omega⟩
    obtain ⟨bn, rfl⟩ : ∃ bn : Nat, bpp = bn := ⟨bpp.toNat, by omega⟩
    obtain ⟨kd, rfl⟩ : ∃ kd : Nat, kind = kd := ⟨kind.toNat, by omega⟩
    rw [Int.toNat_natCast] at h4
    have hd := Nat.div_add_mod n wn
    rw [h4, Nat.add_zero, Nat.mul_comm] at hd
    have := reffilter_yes p n cap wn bn kd (n / wn) l w h (by omega) (by omega) (by omega) (by omega) (by omega) hd.symm hn
    unfold ck.filt
    rw [Int.toNat_natCast, Int.toNat_natCast, h.len]
    exact this
  · rw [if_neg hok]
    exact reffilter_no width bpp kind p n cap w (by omega) hok
end Go.Proofs.YtfaemhmefijaoaaDoor
