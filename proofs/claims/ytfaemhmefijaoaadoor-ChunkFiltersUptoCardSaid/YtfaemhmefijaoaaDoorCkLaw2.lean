/- ChunkFilters: the law's walk. -/
import Derived.Test.YtfaemhmefijaoaaDoorCkLaw1
namespace Go.Proofs.YtfaemhmefijaoaaDoor
open Go.RowKit Go.Sort

theorem filt_len (width bpp kind : Int) (l : List Int) {wn m : Nat} (hw : width = wn) (hm : l.length = m * wn) (h1 : 1 ≤ wn) : (ck.filt width bpp kind l).length = m * (wn + 1) := by
  unfold ck.filt
  rw [ck.filtTo_length, hw, Int.toNat_natCast, hm, Nat.mul_div_cancel _ (by omega)]
/-- what is filtered comes back -/
theorem filt_back {width bpp kind : Int} {l O : List Int} (hl : ∀ v ∈ l, 0 ≤ v ∧ v < 256) (h : ck.filtR width bpp kind l = some O) : ck.unfErr width bpp O = 0 ∧ ck.unfOut width bpp O = l ∧ O.length ≤ 2 * l.length := by
  unfold ck.filtR at h
  split at h
  · rename_i hok
    obtain ⟨h1, h2, h3, h4⟩ := hok
    obtain ⟨q1, q2, q3, q4⟩ := of_decide_eq_true h1
    obtain ⟨wn, rfl⟩ : ∃ wn : Nat, width = wn := ⟨width.toNat, by omega⟩
    obtain ⟨bn, rfl⟩ : ∃ bn : Nat, bpp = bn := ⟨bpp.toNat, by omega⟩
    rw [Int.toNat_natCast] at h4
    have hd := Nat.div_add_mod l.length wn
    rw [h4, Nat.add_zero, Nat.mul_comm] at hd
    obtain ⟨m, hm⟩ : ∃ m, l.length / wn = m := ⟨_, rfl⟩
    rw [hm] at hd
    obtain rfl := Option.some.inj h
    have hlen := filt_len wn bn kind l rfl hd.symm (by omega)
    have hO : ck.filt wn bn kind l = ck.filtTo wn bn kind l m := by unfold ck.filt; rw [Int.toNat_natCast, Int.toNat_natCast, hm]
    have hdiv : (ck.filt wn bn kind l).length / (wn + 1) = m := by rw [hlen, Nat.mul_div_cancel _ (by omega)]
    have hE : ck.unfErr wn bn (ck.filt wn bn kind l) = 0 := by
      unfold ck.unfErr
      rw [if_pos h1, Int.toNat_natCast, hdiv, if_pos]
      exact ⟨by rw [hlen, Nat.mul_mod_left], by rw [hO]; exact ck.filt_kinds wn bn kind l m h3⟩
    refine ⟨hE, ?_, ?_⟩
    · unfold ck.unfOut
      rw [if_pos hE, Int.toNat_natCast, Int.toNat_natCast, hdiv, hO, ck.unf_filt wn bn kind l m (by omega) hd.symm hl m (Nat.le_refl _), hd, List.take_length]
    · have : m ≤ m * wn := Nat.le_mul_of_pos_right _ (by omega)
      rw [hlen, Nat.mul_succ]
      omega
  · cases h
theorem filt_bytes {width bpp kind : Int} {l O : List Int} (h : ck.filtR width bpp kind l = some O) : ∀ v ∈ O, 0 ≤ v ∧ v < 256 := by
  unfold ck.filtR at h
  split at h
  · rename_i hok
    obtain ⟨_, h2, h3, _⟩ := hok
    obtain rfl := Option.some.inj h
    intro v hv
    unfold ck.filt ck.filtTo at hv
    obtain ⟨i, _, hv⟩ := List.mem_flatMap.1 hv
    unfold ck.fTo at hv
    rcases List.mem_cons.1 hv with rfl | hv
    · omega
    · obtain ⟨x, _, rfl⟩ := List.mem_map.1 hv
      exact fByte_byte
  · cases h
set_option maxRecDepth 100000 in
set_option maxHeartbeats 3200000 in
theorem chunkFilters_walk (a : Option Addr) (n cap : Nat) (l : List Int) (x y z : Int) (w : World) (h : Sl .u8 w a n cap l) (hz : cap ≤ 1048576) (_ : (Lit.int .i64 x).wf = true) (_ : (Lit.int .i64 y).wf = true) (hk : (Lit.int .i64 z).wf = true) :
    Calls Tryd.prog 6 #[.slice a n cap, .agg #[.int .i64 x, .int .i64 y, .int .i64 z]] w (Same8Post true w) := by
  have hn : n ≤ 1048576 := Nat.le_trans h.fits hz
  have hk' : -9223372036854775808 ≤ z ∧ z ≤ 9223372036854775807 := by
    simp [Lit.wf, IntKind.min, IntKind.max, IntKind.bits, IntKind.signed] at hk
    omega
  have HS := Lib.hid h
  have HK := Lib.hid hk'
  clear h hz hk hk'
  have HB0 := Lib.hid ((Below.refl w.heap.size w).alloc (Nat.le_refl _) (.cells #[.int .i64 x, .int .i64 y, .int .i64 z] 42))
  have h0 := heap_alloc_new w (.cells #[.int .i64 x, .int .i64 y, .int .i64 z] 42)
  go_enter Tryd.func6, Tryd.ntmps6
  go_wp2_with fail
  generalize w.alloc (.cells #[.int .i64 x, .int .i64 y, .int .i64 z] 42) = w0 at *
  have H0 := Lib.hid h0
  clear h0
  refine (wakes_any _).mono ?_
  rintro e w1 ⟨rfl, hb1⟩
  have HB1 := Lib.hid (HB0.out.trans (hb1.mono HB0.out.size))
  have HS1 := Lib.hid ((HS.out.below HB0.out).below hb1)
  have h1 := (hb1.block _ (block_lt H0.out)).trans H0.out
  have x0 := (cell_of_row _ _ 0 _ _ (0, 0) h1).trans rfl
  have x1 := (cell_of_row _ _ 1 _ _ (0, 0) h1).trans rfl
  have x2 := (cell_of_row _ _ 2 _ _ (0, 0) h1).trans rfl
  have y0 := cell_regrown x0
  have y1 := cell_regrown x1
  have y2 := cell_regrown x2
  clear hb1 h1
  go_wp2_with fail
  refine wp_region_quiet_below (by kernel_rfl) (by kernel_rfl) ?_
  repeat (go_big_quiet_step (fail))
  refine wpQuiet_nil ?_
  intro _ hw'
  obtain ⟨⟨dq, osq⟩, hw''⟩ := hw'
  subst hw''
  have HBq := Lib.hid (HB1.out.trans ((below_regrown w1 dq osq).mono HB1.out.size))
  have HSq := Lib.hid (HS1.out.below (below_regrown w1 dq osq))
  clear x0 x1 x2 y0 y1 y2
  generalize grow (redrawn w1 dq) osq = wq at *
  go_wp2_with fail
  refine (own8_any _ _ _ _ _ HSq.out (by omega)).mono ?_
  rintro e w2 ⟨g2, c2, rfl, hs2, _, hb⟩
  have HS2 := Lib.hid hs2
  have HSa := Lib.hid (HSq.out.below hb)
  have HB2 := Lib.hid (HBq.out.trans (hb.mono HBq.out.size))
  clear hs2 hb
  go_wp2_with fail
  refine (filter_any (some ⟨g2, 0, none⟩) g2 0 n c2 x y z l _ HS2.out (.inr rfl) (by omega) HK.out.1 HK.out.2).mono ?_
  cases hf : ck.filtR x y z l with
  | none =>
    have HF := Lib.hid hf
    clear hf
    rintro e w3 ⟨rfl, hb⟩
    have HSb := Lib.hid (HSa.out.below hb)
    have HB3 := Lib.hid (HB2.out.trans (hb.mono HB2.out.size))
    clear hb
    go_wp2_with fail
    refine (reffilter_any _ _ _ _ _ _ _ _ HSb.out (by omega)).mono ?_
    rw [HF.out]
    rintro e w4 ⟨rfl, hb⟩
    have HB4 := Lib.hid (HB3.out.trans (hb.mono HB3.out.size))
    clear hb
    go_wp2_with fail
    refine (same8_any _ _ _ _ _ _ [] [] _ Sl.nil Sl.nil).mono ?_
    rw [decide_eq_true rfl]
    rintro e w5 ⟨rfl, hb⟩
    have HB5 := Lib.hid (HB4.out.trans (hb.mono HB4.out.size))
    clear hb
    go_wp2_with fail
    go_ret
    exact ⟨rfl, HB5.out⟩
  | some O =>
    obtain ⟨hu1, hu2, hu3⟩ := filt_back HS.out.bytes hf
    have HU := Lib.hid (And.intro hu1 hu2)
    have hol : O.length ≤ 2097152 := by rw [HS.out.len] at hu3; omega
    have HOB := Lib.hid (filt_bytes hf)
    have HF := Lib.hid hf
    clear hf hu1 hu2 hu3
    rintro e w3 ⟨v, rfl, hr, hb⟩
    obtain ⟨a3, c3, rfl, hs3, _⟩ := own_sl hr HOB.out
    have HS3 := Lib.hid hs3
    have HSb := Lib.hid (HSa.out.below hb)
    have HB3 := Lib.hid (HB2.out.trans (hb.mono HB2.out.size))
    clear hr hs3 hb
    go_wp2_with fail
    refine (reffilter_any _ _ _ _ _ _ _ _ HSb.out (by omega)).mono ?_
    rw [HF.out]
    rintro e w4 ⟨v, rfl, hr, hb⟩
    obtain ⟨a4, c4, rfl, hs4, _⟩ := own_sl hr HOB.out
    have HS4 := Lib.hid hs4
    have HSc := Lib.hid (HS3.out.below hb)
    have HSd := Lib.hid (HSb.out.below hb)
    have HB4 := Lib.hid (HB3.out.trans (hb.mono HB3.out.size))
    clear hr hs4 hb
    go_wp2_with fail
    refine (same8_any _ _ _ _ _ _ _ _ _ HSc.out HS4.out).mono ?_
    rw [decide_eq_true rfl]
    rintro e w5 ⟨rfl, hb⟩
    have HB5 := Lib.hid (HB4.out.trans (hb.mono HB4.out.size))
    have HSe := Lib.hid (HSc.out.below hb)
    have HSf := Lib.hid (HSd.out.below hb)
    clear hb
    go_wp2_with fail
    refine (own8_any _ _ _ _ _ HSe.out (by omega)).mono ?_
    rintro e w6 ⟨g6, c6, rfl, hs6, _, hb⟩
    have HS6 := Lib.hid hs6
    have HSg := Lib.hid (HSf.out.below hb)
    have HB6 := Lib.hid (HB5.out.trans (hb.mono HB5.out.size))
    clear hs6 hb
    go_wp2_with fail
    refine (unfilter_any (some ⟨g6, 0, none⟩) g6 0 _ c6 x y O _ HS6.out (.inr rfl) (by omega)).mono ?_
    rw [HU.out.1, HU.out.2]
    rintro e w7 ⟨v, rfl, hr, hb⟩
    obtain ⟨a7, c7, rfl, hs7, _⟩ := own_sl hr HS.out.bytes
    have HS7 := Lib.hid hs7
    have HSh := Lib.hid (HSg.out.below hb)
    have HB7 := Lib.hid (HB6.out.trans (hb.mono HB6.out.size))
    clear hr hs7 hb
    go_wp2_with fail
    refine (same8_any _ _ _ _ _ _ _ _ _ HS7.out HSh.out).mono ?_
    rw [decide_eq_true rfl]
    rintro e w8 ⟨rfl, hb⟩
    have HB8 := Lib.hid (HB7.out.trans (hb.mono HB7.out.size))
    clear hb
    go_wp2_with fail
    go_ret
    exact ⟨rfl, HB8.out⟩
end Go.Proofs.YtfaemhmefijaoaaDoor
