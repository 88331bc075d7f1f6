/- SameChunks. -/
import Derived.Test.YtfaemhmefijaoaaDoorCkLaw0
namespace Go.Proofs.YtfaemhmefijaoaaDoor
open Go.RowKit Go.Sort

theorem str_eq {s t : ByteArray} (h : s.toList = t.toList) : s = t := by
  rw [ByteArray.toList_eq, ByteArray.toList_eq] at h
  obtain ⟨a⟩ := s
  obtain ⟨b⟩ := t
  simp only at h
  rw [Array.toList_inj.1 h]
theorem bytesOf_inj {s t : ByteArray} (h : ck.bytesOf s = ck.bytesOf t) : s = t := by
  rw [← ck.strOf_bytesOf s, ← ck.strOf_bytesOf t, h]
theorem map_getD {ls : List ck.Arg} {k : Nat} {x : ck.Arg} (h : ls[k]? = some x) : (ls.map (·.ck))[k]? = some x.ck := by
  rw [List.getElem?_map, h]
  rfl

set_option maxRecDepth 100000 in
set_option maxHeartbeats 3200000 in
theorem sameChunks_any (p p' : Option Addr) (n n' cap cap' : Nat) (ls ls' : List ck.Arg) (w : World) (h : ck.Rd w p n cap ls) (h' : ck.Rd w p' n' cap' ls') :
    Calls Tryd.prog 14 #[.slice p n cap, .slice p' n' cap'] w (Same8Post (decide (ls.map (·.ck) = ls'.map (·.ck))) w) := by
  have HS := Lib.hid h
  have HS' := Lib.hid h'
  have hm := h.fits
  have hm2 := h.most
  have hm' := h'.fits
  unfold maxLen at hm2
  clear h h'
  by_cases h3 : n = n'
  · subst h3
    go_enter Tryd.func14, Tryd.ntmps14
    go_wp2_with fail
    go_loopg [5] n (fun gk i wr => ∃ k : Nat, k ≤ n ∧ gk = n - k ∧ i = .int .i64 k ∧ Below w.heap.size w wr ∧ ∀ j, j < k → (ls.map (·.ck))[j]? = (ls'.map (·.ck))[j]?)
    case atStart => exact ⟨0, by omega, rfl, rfl, Below.refl _ _, fun j hj => absurd hj (by omega)⟩
    case round =>
      obtain ⟨k, hk, hg, rfl, hb, hj⟩ := hrel
      have Hg := Lib.hid hg
      have Hb := Lib.hid hb
      have Hj := Lib.hid hj
      clear hg hb hj
      by_cases hlt : k < n
      · obtain ⟨b, off, x, rfl, hx, cx, cy, hd⟩ := (HS.out.below Hb.out).at hlt
        obtain ⟨b', off', x', rfl, hx', cx', cy', hd'⟩ := (HS'.out.below Hb.out).at hlt
        have HX := Lib.hid (map_getD hx)
        have HX' := Lib.hid (map_getD hx')
        have HD := Lib.hid hd
        have HD' := Lib.hid hd'
        clear hx hx' hd hd'
        by_cases ht : x.s = x'.s
        · rw [← ht] at cx'
          have y0 := cell_regrown cx
          have y1 := cell_regrown cy
          have y2 := cell_regrown cx'
          have y3 := cell_regrown cy'
          have hss : (x.s.toList != x.s.toList) = false := by simp
          have hss' : (x.s.toList == x.s.toList) = true := by simp
          have HT := Lib.hid ht
          by_cases hdd : x.d = x'.d
          · have CN : Hid (∀ d os, Calls Tryd.prog 18 #[.slice x.p x.n x.cap, .slice x'.p x'.n x'.cap] (grow (redrawn wr d) os) fun e w'' => e = .returned (.bool true) ∧ ∃ p : Regrown, w'' = grow (redrawn wr p.d) p.os) := Lib.hid (fun d os => Calls.regrown_of (by
              have := same8_any _ _ _ _ _ _ _ _ _ (HD.out.below (below_regrown wr d os)) (HD'.out.below (below_regrown wr d os))
              rw [decide_eq_true hdd] at this
              exact this))
            have HE : Hid (x.ck = x'.ck) := Lib.hid (by unfold ck.Arg.ck; rw [ht, hdd])
            clear ht hdd cx cy cx' cy'
            go_wp2_with fail
            refine wp_region_quiet_below (by kernel_rfl) (by kernel_rfl) ?_
            repeat (go_big_quiet_step (exact CN.out _ _))
            refine wpQuiet_nil ?_
            intro _ hw'
            obtain ⟨⟨dq, osq⟩, hw''⟩ := hw'
            subst hw''
            have HB5 := Lib.hid (Hb.out.trans ((below_regrown wr dq osq).mono Hb.out.size))
            clear y0 y1 y2 y3 CN
            generalize grow (redrawn wr dq) osq = w5 at *
            go_wp2_with fail
            go_roundg (n - (k + 1))
            case measure => have := Hg.out; omega
            case rel => exact ⟨k + 1, by omega, rfl, by go_num, HB5.out, fun j hj => by
              rcases Nat.lt_or_ge j k with h | h
              · exact Hj.out j h
              · obtain rfl : j = k := by omega
                rw [HX.out, HX'.out, HE.out]⟩
          · have CN : Hid (∀ d os, Calls Tryd.prog 18 #[.slice x.p x.n x.cap, .slice x'.p x'.n x'.cap] (grow (redrawn wr d) os) fun e w'' => e = .returned (.bool false) ∧ ∃ p : Regrown, w'' = grow (redrawn wr p.d) p.os) := Lib.hid (fun d os => Calls.regrown_of (by
              have := same8_any _ _ _ _ _ _ _ _ _ (HD.out.below (below_regrown wr d os)) (HD'.out.below (below_regrown wr d os))
              rw [decide_eq_false hdd] at this
              exact this))
            have HV : Hid (decide (ls.map (·.ck) = ls'.map (·.ck)) = false) := Lib.hid (decide_eq_false fun h => hdd (by
              have h1 := HX.out
              rw [h, HX'.out] at h1
              exact (congrArg Prod.snd (Option.some.inj h1)).symm))
            clear ht hdd cx cy cx' cy'
            go_wp2_with fail
            refine wp_region_quiet_below (by kernel_rfl) (by kernel_rfl) ?_
            repeat (go_big_quiet_step (exact CN.out _ _))
            refine wpQuiet_nil ?_
            intro _ hw'
            obtain ⟨⟨dq, osq⟩, hw''⟩ := hw'
            subst hw''
            have HB5 := Lib.hid (Hb.out.trans ((below_regrown wr dq osq).mono Hb.out.size))
            clear y0 y1 y2 y3 CN
            generalize grow (redrawn wr dq) osq = w5 at *
            go_wp2_with fail
            go_ret
            exact ⟨by rw [HV.out]; rfl, HB5.out⟩
        · have y0 := cell_regrown cx
          have y2 := cell_regrown cx'
          have hss : (x.s.toList != x'.s.toList) = true := by simp only [bne_iff_ne, ne_eq]; exact fun h => ht (str_eq h)
          have hss' : (x.s.toList == x'.s.toList) = false := by simpa using fun h => ht (str_eq h)
          have HV : Hid (decide (ls.map (·.ck) = ls'.map (·.ck)) = false) := Lib.hid (decide_eq_false fun h => ht (by
            have h1 := HX.out
            rw [h, HX'.out] at h1
            exact (bytesOf_inj (congrArg Prod.fst (Option.some.inj h1))).symm))
          clear ht cx cy cx' cy'
          go_wp2_with fail
          refine wp_region_quiet_below (by kernel_rfl) (by kernel_rfl) ?_
          repeat (go_big_quiet_step (fail))
          refine wpQuiet_nil ?_
          intro _ hw'
          obtain ⟨⟨dq, osq⟩, hw''⟩ := hw'
          subst hw''
          have HB5 := Lib.hid (Hb.out.trans ((below_regrown wr dq osq).mono Hb.out.size))
          clear y0 y2
          generalize grow (redrawn wr dq) osq = w5 at *
          go_wp2_with fail
          go_ret
          exact ⟨by rw [HV.out]; rfl, HB5.out⟩
      · obtain rfl : k = n := by omega
        have HV : Hid (decide (ls.map (·.ck) = ls'.map (·.ck)) = true) := Lib.hid (decide_eq_true (by
          apply List.ext_getElem?
          intro i
          rcases Nat.lt_or_ge i k with h | h
          · exact Hj.out i h
          · rw [List.getElem?_eq_none (by rw [List.length_map, HS.out.len]; exact h), List.getElem?_eq_none (by rw [List.length_map, HS'.out.len]; exact h)]))
        clear hlt
        go_wp2_with fail
        go_ret
        exact ⟨by rw [HV.out]; rfl, Hb.out⟩
  · have HV : Hid (decide (ls.map (·.ck) = ls'.map (·.ck)) = false) := Lib.hid (decide_eq_false fun h => h3 (by
      have := congrArg List.length h
      rw [List.length_map, List.length_map, HS.out.len, HS'.out.len] at this
      exact this))
    have hss : ((n : Int) != (n' : Int)) = true := by simp; omega
    have hss' : ((n : Int) == (n' : Int)) = false := by simp; omega
    clear h3
    go_enter Tryd.func14, Tryd.ntmps14
    go_wp2_with fail
    go_ret
    exact ⟨by rw [HV.out]; rfl, Below.refl _ _⟩
end Go.Proofs.YtfaemhmefijaoaaDoor
