/- What the laws of this chapter call of their own: own, Same, wakes. -/
import Derived.Test.YtfaemhmefijaoaaDoorCkRefU
import Derived.Test.YtfaemhmefijaoaaDoorCkPass
namespace Go.Proofs.YtfaemhmefijaoaaDoor
open Go.RowKit Go.Sort

def Same8Post (b : Bool) (w : World) (e : Ending) (w' : World) : Prop := e = .returned (.bool b) ∧ Below w.heap.size w w'
set_option maxRecDepth 100000 in
set_option maxHeartbeats 1600000 in
theorem same8_any (a a' : Option Addr) (n n' cap cap' : Nat) (l l' : List Int) (w : World) (h : Sl .u8 w a n cap l) (h' : Sl .u8 w a' n' cap' l') :
    Calls Tryd.prog 18 #[.slice a n cap, .slice a' n' cap'] w (Same8Post (decide (l = l')) w) := by
  have HS := Lib.hid h
  have HS' := Lib.hid h'
  have hm := h.fits
  have hm2 := h.most
  unfold maxLen at hm2
  clear h h'
  by_cases h3 : n = n'
  · subst h3
    go_enter Tryd.func18, Tryd.ntmps18
    go_wp2_with fail
    go_loopg [5] n (fun gk i wr => ∃ k : Nat, k ≤ n ∧ gk = n - k ∧ i = .int .i64 k ∧ Below w.heap.size w wr ∧ ∀ j, j < k → l.getD j 0 = l'.getD j 0)
    case atStart => exact ⟨0, by omega, rfl, rfl, Below.refl _ _, fun j hj => absurd hj (by omega)⟩
    case round =>
      obtain ⟨k, hk, hg, rfl, hb, hj⟩ := hrel
      have Hg := Lib.hid hg
      have Hb := Lib.hid hb
      have Hj := Lib.hid hj
      clear hg hb hj
      by_cases hlt : k < n
      · obtain ⟨b, off, rfl, hcell⟩ := HS.out.cells (by omega)
        obtain ⟨b', off', rfl, hcell'⟩ := HS'.out.cells (by omega)
        have x1 := cell_regrown (keep_cell Hb.out (hcell k hlt))
        have x2 := cell_regrown (keep_cell Hb.out (hcell' k hlt))
        clear hcell hcell'
        by_cases heq : l.getD k 0 = l'.getD k 0
        · have HE := Lib.hid heq
          rw [← heq] at x2
          clear heq
          obtain ⟨s, hs⟩ : ∃ s, l.getD k 0 = s := ⟨_, rfl⟩
          rw [hs] at x1 x2
          clear hs
          have hss : (s != s) = false := by simp
          go_wp2_with fail
          refine wp_region_quiet_below (by kernel_rfl) (by kernel_rfl) ?_
          repeat (go_big_quiet_step (fail))
          refine wpQuiet_nil ?_
          intro _ hw'
          obtain ⟨⟨dq, osq⟩, hw''⟩ := hw'
          subst hw''
          have HB5 := Lib.hid (Hb.out.trans ((below_regrown wr dq osq).mono Hb.out.size))
          clear x1 x2
          generalize grow (redrawn wr dq) osq = w5 at *
          go_wp2_with fail
          go_roundg (n - (k + 1))
          case measure => have := Hg.out; omega
          case rel => exact ⟨k + 1, by omega, rfl, by go_num, HB5.out, fun j hj => by
            rcases Nat.lt_or_ge j k with h | h
            · exact Hj.out j h
            · obtain rfl : j = k := by omega
              exact HE.out⟩
        · have HV : Hid (decide (l = l') = false) := Lib.hid (decide_eq_false fun h => heq (by rw [h]))
          generalize l.getD k 0 = s at *
          generalize l'.getD k 0 = s' at *
          have hss : (s != s') = true := by simpa using heq
          have hss' : (s == s') = false := by simpa using heq
          clear heq
          go_wp2_with fail
          refine wp_region_quiet_below (by kernel_rfl) (by kernel_rfl) ?_
          repeat (go_big_quiet_step (fail))
          refine wpQuiet_nil ?_
          intro _ hw'
          obtain ⟨⟨dq, osq⟩, hw''⟩ := hw'
          subst hw''
          have HB5 := Lib.hid (Hb.out.trans ((below_regrown wr dq osq).mono Hb.out.size))
          clear x1 x2
          generalize grow (redrawn wr dq) osq = w5 at *
          go_wp2_with fail
          go_ret
          exact ⟨by rw [HV.out]; rfl, HB5.out⟩
      · obtain rfl : k = n := by omega
        have HV : Hid (decide (l = l') = true) := Lib.hid (decide_eq_true (list_eq_getD (by rw [HS.out.len, HS'.out.len]) fun i hi => Hj.out i (by rw [HS.out.len] at hi; exact hi)))
        clear hlt
        go_wp2_with fail
        go_ret
        exact ⟨by rw [HV.out]; rfl, Hb.out⟩
  · have HV : Hid (decide (l = l') = false) := Lib.hid (decide_eq_false fun h => h3 (by rw [← HS.out.len, ← HS'.out.len, h]))
    have hss : ((n : Int) != (n' : Int)) = true := by simp; omega
    have hss' : ((n : Int) == (n' : Int)) = false := by simp; omega
    clear h3
    go_enter Tryd.func18, Tryd.ntmps18
    go_wp2_with fail
    go_ret
    exact ⟨by rw [HV.out]; rfl, Below.refl _ _⟩
/-- own, its answer to be read -/
theorem own8_any (a : Option Addr) (n cap : Nat) (l : List Int) (w : World) (h : Sl .u8 w a n cap l) (hr : n ≤ 140737488355328) :
    Calls Tryd.prog 12 #[.slice a n cap] w fun e w' => ∃ g c, e = .returned (.slice (some ⟨g, 0, none⟩) n c) ∧ Sl .u8 w' (some ⟨g, 0, none⟩) n c l ∧ w'.ownsRow w.heap.size 5 1 (.slice (some ⟨g, 0, none⟩) n c) n (l.map (Value.int .u8)) ∧ Below w.heap.size w w' := by
  refine (own_any a n cap l w h hr).mono ?_
  rintro e w' ⟨v, rfl, hf, hb⟩
  obtain ⟨g, c, rfl, _, hrow⟩ := hf
  exact ⟨g, c, rfl, Fresh.sl hrow (wf_of_bytes h.bytes), hrow, hb⟩
def ck.iendF : List Int := [137, 80, 78, 71, 13, 10, 26, 10, 0, 0, 0, 0, 73, 69, 78, 68, 174, 66, 96, 130]
def ck.iendA : List ck.Arg := [⟨⟨#[73, 69, 78, 68]⟩, none, 0, 0, []⟩]
theorem wakes_join : ck.join (ck.iendA.map (·.ck)) = some ck.iendF := by decide +kernel
theorem wakes_split : ck.split ck.iendF = some [(ck.iend, [])] := by decide +kernel
theorem wakes_filt : ck.filtR 3 1 1 [10, 20, 30] = some [1, 10, 10, 10] := by decide +kernel
theorem wakes_unf : ck.unfErr 3 1 [1, 10, 10, 10] = 0 ∧ ck.unfOut 3 1 [1, 10, 10, 10] = [10, 20, 30] := by decide +kernel
theorem wakes_pass : ck.passes 1 1 = [⟨0, 0, 8, 8⟩] := rfl
theorem wakes_crit : ck.crit ⟨#[73, 68, 65, 84]⟩ = true := by decide +kernel

set_option maxRecDepth 100000 in
set_option maxHeartbeats 3200000 in
theorem wakes_any (w : World) : Calls Tryd.prog 10 #[] w (Same8Post true w) := by
  have HR1 : Hid (ck.Rd (w.alloc (.cells #[.string ⟨#[73, 69, 78, 68]⟩, .slice none 0 0] 57)) (some ⟨w.heap.size, 0, none⟩) 1 1 ck.iendA) := Lib.hid (by
    refine ⟨rfl, Nat.le_refl _, by decide, (fun h => nomatch h), .inr ⟨_, _, rfl, fun i x hx => ?_⟩, fun x hx => ?_, fun x hx => ?_⟩
    · match i, hx with
      | 0, hx =>
        obtain rfl : x = ⟨⟨#[73, 69, 78, 68]⟩, none, 0, 0, []⟩ := (Option.some.inj hx).symm
        exact ⟨cells_alloc _ _ _ _ _ rfl, cells_alloc _ _ _ _ _ rfl⟩
    · rw [List.mem_singleton.1 hx]; exact Sl.nil
    · rw [List.mem_singleton.1 hx]; decide)
  have HB1 := Lib.hid ((Below.refl w.heap.size w).alloc (Nat.le_refl _) (.cells #[.string ⟨#[73, 69, 78, 68]⟩, .slice none 0 0] 57))
  go_enter Tryd.func10, Tryd.ntmps10
  go_wp2_with fail
  generalize w.alloc (.cells #[.string ⟨#[73, 69, 78, 68]⟩, .slice none 0 0] 57) = w1 at *
  refine (join_any _ _ _ _ _ HR1.out (by decide +kernel)).mono ?_
  rw [wakes_join]
  rintro e w2 ⟨v, rfl, hr, hb⟩
  obtain ⟨a2, c2, rfl, hs2, _⟩ := own_sl hr (by decide)
  rw [show ck.iendF.length = 20 from rfl] at hs2 ⊢
  have HS2 := Lib.hid hs2
  have HB2 := Lib.hid (HB1.out.trans (hb.mono HB1.out.size))
  clear hr hs2 hb
  go_wp2_with fail
  refine (own8_any _ _ _ _ _ HS2.out (by decide)).mono ?_
  rintro e w3 ⟨g3, c3, rfl, hs3, _, hb⟩
  have HS3 := Lib.hid hs3
  have HB3 := Lib.hid (HB2.out.trans (hb.mono HB2.out.size))
  clear hs3 hb
  go_wp2_with fail
  refine (split_any _ _ _ _ _ _ HS3.out (by decide)).mono ?_
  rw [wakes_split]
  rintro e w4 ⟨v, xs, rfl, hat, hxs, hb⟩
  have hxl : xs.length = 1 := by rw [← List.length_map (f := (·.ck)), hxs]; rfl
  have hrow := hat.row
  rw [hxl] at hrow
  obtain ⟨g4, c4, rfl, _⟩ := own_form hrow (by decide)
  have HB4 := Lib.hid (HB3.out.trans (hb.mono HB3.out.size))
  clear hat hxs hxl hrow hb
  go_wp2_with fail
  have HS5 := Lib.hid (sl_bytes w4 [10, 20, 30] 5 (0, 0) w4.heap.size rfl (by decide) (by decide))
  refine (filter_any (some ⟨w4.heap.size, 0, none⟩) w4.heap.size 0 3 3 3 1 1 [10, 20, 30] _ HS5.out (.inr rfl) (by decide) (by decide) (by decide)).mono ?_
  rw [wakes_filt]
  rintro e w5 ⟨v, rfl, hr, hb⟩
  have HB5 := Lib.hid ((HB4.out.alloc HB4.out.size (.cells #[.int .u8 10, .int .u8 20, .int .u8 30] 5)).trans (hb.mono (HB4.out.alloc HB4.out.size (.cells #[.int .u8 10, .int .u8 20, .int .u8 30] 5)).size))
  obtain ⟨a5, c5, rfl, hs5, _⟩ := own_sl hr (by decide)
  have HS6 := Lib.hid hs5
  clear hr hs5 hb HS5
  go_wp2_with fail
  refine (own8_any _ _ _ _ _ HS6.out (by decide)).mono ?_
  rintro e w6 ⟨g6, c6, rfl, hs6, _, hb⟩
  have HS7 := Lib.hid hs6
  have HSx := Lib.hid (HS6.out.below hb)
  have HB6 := Lib.hid (HB5.out.trans (hb.mono HB5.out.size))
  clear hs6 hb
  go_wp2_with fail
  refine (unfilter_any (some ⟨g6, 0, none⟩) g6 0 4 c6 3 1 [1, 10, 10, 10] _ HS7.out (.inr rfl) (by decide)).mono ?_
  rw [wakes_unf.1, wakes_unf.2]
  rintro e w7 ⟨v, rfl, hr, hb⟩
  obtain ⟨a7, c7, rfl, hs7, _⟩ := own_sl hr (by decide)
  have HS8 := Lib.hid hs7
  have HSy := Lib.hid (HSx.out.below hb)
  have HB7 := Lib.hid (HB6.out.trans (hb.mono HB6.out.size))
  clear hr hs7 hb
  go_wp2_with fail
  have HL1 := Lib.hid (sl_bytes w7 [1, 10, 10, 10] 5 (0, 0) w7.heap.size rfl (by decide) (by decide))
  have HA8 := Lib.hid ((Below.refl w7.heap.size w7).alloc (Nat.le_refl _) (.cells #[.int .u8 1, .int .u8 10, .int .u8 10, .int .u8 10] 5))
  refine (same8_any _ _ _ _ _ _ [1, 10, 10, 10] [1, 10, 10, 10] _ (HSy.out.below HA8.out) HL1.out).mono ?_
  rw [decide_eq_true rfl]
  rintro e w8 ⟨rfl, hb⟩
  have HB8 := Lib.hid ((HB7.out.trans (HA8.out.mono HB7.out.size)).trans (hb.mono (HB7.out.trans (HA8.out.mono HB7.out.size)).size))
  have HSz := Lib.hid ((HS8.out.below HA8.out).below hb)
  clear hb HL1
  go_wp2_with fail
  have HL2 := Lib.hid (sl_bytes w8 [10, 20, 30] 5 (0, 0) w8.heap.size rfl (by decide) (by decide))
  have HA9 := Lib.hid ((Below.refl w8.heap.size w8).alloc (Nat.le_refl _) (.cells #[.int .u8 10, .int .u8 20, .int .u8 30] 5))
  refine (same8_any _ _ _ _ _ _ [10, 20, 30] [10, 20, 30] _ (HSz.out.below HA9.out) HL2.out).mono ?_
  rw [decide_eq_true rfl]
  rintro e w9 ⟨rfl, hb⟩
  have HB9 := Lib.hid ((HB8.out.trans (HA9.out.mono HB8.out.size)).trans (hb.mono (HB8.out.trans (HA9.out.mono HB8.out.size)).size))
  clear hb HL2
  go_wp2_with fail
  refine (passes_any 1 1 _ (by decide) (by decide) (by decide) (by decide)).mono ?_
  rw [wakes_pass]
  rintro e w10 ⟨v, rfl, hr, hb⟩
  obtain ⟨g10, c10, rfl, _⟩ := own_form hr (by decide)
  have HB10 := Lib.hid (HB9.out.trans (hb.mono HB9.out.size))
  clear hr hb
  go_wp2_with fail
  refine (crit_any _ _).mono ?_
  rw [wakes_crit]
  rintro e w11 ⟨rfl, rfl⟩
  go_wp2_with fail
  go_ret
  exact ⟨rfl, HB10.out⟩
end Go.Proofs.YtfaemhmefijaoaaDoor
