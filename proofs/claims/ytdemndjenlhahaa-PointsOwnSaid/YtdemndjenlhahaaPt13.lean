/- The reference's Fit. -/
import Derived.Test.YtdemndjenlhahaaPt12
namespace Go.Proofs.Ytdemndjenlhahaa
open Go.RowKit Go.Sort

set_option maxRecDepth 100000 in
set_option maxHeartbeats 1600000 in
theorem refFit_any (p A : Option Addr) (n cap : Nat) (a : List Int) (l : List (Int × Int)) (w : World) (hA : Sl .i64 w p n cap a) (hn : n ≤ 17592186044416) (hl : l.length ≤ 4) (hB : BdAt w A l) :
    Calls Try.prog 23 #[.slice p n cap, .slice A (2 * l.length) (2 * l.length)] w fun e w' => e = .returned (.bool (decide (pm.fitL a l))) ∧ Below w.heap.size w w' := by
  have HA := Lib.hid hA
  have HB := Lib.hid hB
  clear hA hB
  by_cases hnl : n = l.length
  · obtain ⟨m, hm⟩ : ∃ m, m = l.length := ⟨_, rfl⟩
    have HM := Lib.hid hm
    rw [← hm] at hl hnl ⊢
    subst hnl
    clear hm
    go_enter Try.func23, Try.ntmps23
    go_wp2_with fail
    go_loopg [5] n (fun gk i wr => ∃ j : Nat, j ≤ n ∧ gk = n - j ∧ i = .int .i64 j ∧ Below w.heap.size w wr ∧ ∀ q, q < j → (l.getD q (0, 0)).1 ≤ a.getD q 0 ∧ a.getD q 0 ≤ (l.getD q (0, 0)).2)
    case atStart => exact ⟨0, by omega, rfl, rfl, Below.refl _ _, fun q hq => absurd hq (by omega)⟩
    case round =>
      obtain ⟨j, hj, hg, rfl, hb, hin⟩ := hrel
      have Hg := Lib.hid hg
      have Hb := Lib.hid hb
      have Hin := Lib.hid hin
      clear hg hb hin
      by_cases hjn : j < n
      · have HA3 := Lib.hid (HA.out.below Hb.out)
        have hjl : j < l.length := by rw [← HM.out]; exact hjn
        obtain ⟨b', off, rfl⟩ := HA3.out.rd.at (by rw [HA3.out.len]; omega)
        have ca := HA3.out.rd.cell j (by rw [HA3.out.len]; exact hjn)
        obtain ⟨g, rfl, hg⟩ : ∃ g, A = some ⟨g, 0, none⟩ ∧ ∀ i x, (flat l)[i]? = some x → wr.cell? ⟨g, i, none⟩ = some x := by
          rcases HB.out.below Hb.out with h | h
          · rw [h] at hjl; simp at hjl
          · exact h
        have cl := hg _ _ (flat_get l j hjl).1
        have ch := hg _ _ (flat_get l j hjl).2
        rw [Nat.mul_comm] at cl ch
        clear hg
        have HF : Hid (∀ q, q = j → pm.fitL a l → (l.getD q (0, 0)).1 ≤ a.getD j 0 ∧ a.getD j 0 ≤ (l.getD q (0, 0)).2) := Lib.hid fun q hq h => by subst hq; exact pm.fitL_at h q (by rw [HA.out.len]; exact hjn)
        have HI : Hid (∀ q, q = j → a.getD q 0 = a.getD j 0 ∧ (l.getD q (0, 0)).1 = (l.getD j (0, 0)).1 ∧ (l.getD q (0, 0)).2 = (l.getD j (0, 0)).2) := Lib.hid fun q hq => by subst hq; exact ⟨rfl, rfl, rfl⟩
        obtain ⟨v, hv⟩ : ∃ v, v = a.getD j 0 := ⟨_, rfl⟩
        obtain ⟨lo, hlo⟩ : ∃ v, v = (l.getD j (0, 0)).1 := ⟨_, rfl⟩
        obtain ⟨hi, hhi⟩ : ∃ v, v = (l.getD j (0, 0)).2 := ⟨_, rfl⟩
        rw [← hv] at ca
        rw [← hlo] at cl
        rw [← hhi] at ch
        have HJ : Hid (v = a.getD j 0 ∧ lo = (l.getD j (0, 0)).1 ∧ hi = (l.getD j (0, 0)).2) := Lib.hid ⟨hv, hlo, hhi⟩
        clear hv hlo hhi
        have y0 := cell_regrown ca
        have y1 := cell_regrown cl
        have y2 := cell_regrown ch
        have i0 : (0 : Int) ≤ (j : Int) := by omega
        have i1 : (j : Int) < (n : Int) := by omega
        have i2 : (0 : Int) ≤ 2 * (j : Int) := by omega
        have i3 : 2 * (j : Int) < 2 * (n : Int) := by omega
        have i4 : (0 : Int) ≤ 2 * (j : Int) + 1 := by omega
        have i5 : 2 * (j : Int) + 1 < 2 * (n : Int) := by omega
        have W1 : IntKind.i64.wrap (2 * (j : Int)) = 2 * (j : Int) := IntWalk.i64_in _ (by omega)
        have W2 : IntKind.i64.wrap (2 * (j : Int) + 1) = 2 * (j : Int) + 1 := IntWalk.i64_in _ (by omega)
        have W3 : (2 * (j : Int)).toNat = 2 * j ∧ (2 * (j : Int) + 1).toNat = 2 * j + 1 := by omega
        by_cases h1 : v < lo
        · have z1 : decide (v < lo) = true := decide_eq_true h1
          have HV : Hid (decide (pm.fitL a l) = false) := Lib.hid (decide_eq_false fun h => by have := HF.out j rfl h; rw [← HJ.out.1, ← HJ.out.2.1] at this; omega)
          clear h1
          go_wp2_with fail
          refine wp_region_quiet_below (by kernel_rfl) (by kernel_rfl) ?_
          repeat (go_big_quiet_step (fail))
          refine wpQuiet_nil ?_
          intro _ hw'
          obtain ⟨⟨dq, osq⟩, hw''⟩ := hw'
          subst hw''
          have HB5 := Lib.hid (Hb.out.trans ((below_regrown wr dq osq).mono Hb.out.size))
          clear ca cl ch y0 y1 y2 W1 W2 W3 i0 i1 i2 i3 i4 i5 z1
          generalize grow (redrawn wr dq) osq = w5 at *
          go_wp2_with fail
          go_ret
          exact ⟨by rw [HV.out]; rfl, HB5.out⟩
        · have z1 : decide (v < lo) = false := decide_eq_false h1
          by_cases h2 : hi < v
          · have z2 : decide (hi < v) = true := decide_eq_true h2
            have HV : Hid (decide (pm.fitL a l) = false) := Lib.hid (decide_eq_false fun h => by have := HF.out j rfl h; rw [← HJ.out.1, ← HJ.out.2.2] at this; omega)
            clear h1 h2
            go_wp2_with fail
            refine wp_region_quiet_below (by kernel_rfl) (by kernel_rfl) ?_
            repeat (go_big_quiet_step (fail))
            refine wpQuiet_nil ?_
            intro _ hw'
            obtain ⟨⟨dq, osq⟩, hw''⟩ := hw'
            subst hw''
            have HB5 := Lib.hid (Hb.out.trans ((below_regrown wr dq osq).mono Hb.out.size))
            clear ca cl ch y0 y1 y2 W1 W2 W3 i0 i1 i2 i3 i4 i5 z1 z2
            generalize grow (redrawn wr dq) osq = w5 at *
            go_wp2_with fail
            go_ret
            exact ⟨by rw [HV.out]; rfl, HB5.out⟩
          · have z2 : decide (hi < v) = false := decide_eq_false h2
            have HV : Hid ((l.getD j (0, 0)).1 ≤ a.getD j 0 ∧ a.getD j 0 ≤ (l.getD j (0, 0)).2) := Lib.hid (by rw [← HJ.out.1, ← HJ.out.2.1, ← HJ.out.2.2]; omega)
            clear h1 h2
            go_wp2_with fail
            refine wp_region_quiet_below (by kernel_rfl) (by kernel_rfl) ?_
            repeat (go_big_quiet_step (fail))
            refine wpQuiet_nil ?_
            intro _ hw'
            obtain ⟨⟨dq, osq⟩, hw''⟩ := hw'
            subst hw''
            have HB5 := Lib.hid (Hb.out.trans ((below_regrown wr dq osq).mono Hb.out.size))
            clear ca cl ch y0 y1 y2 W1 W2 W3 i0 i1 i2 i3 i4 i5 z1 z2
            generalize grow (redrawn wr dq) osq = w5 at *
            go_wp2_with fail
            go_roundg (n - (j + 1))
            case measure => have := Hg.out; omega
            case rel => exact ⟨j + 1, by omega, rfl, by go_num, HB5.out, fun q hq => by
              rcases Nat.lt_or_ge q j with h' | h'
              · exact Hin.out q h'
              · obtain rfl : q = j := by omega
                exact HV.out⟩
      · obtain rfl : j = n := by omega
        have HV : Hid (decide (pm.fitL a l) = true) := Lib.hid (decide_eq_true (pm.fitL_of (by rw [HA.out.len]; exact HM.out) (fun q hq => Hin.out q (by rw [HA.out.len] at hq; exact hq))))
        go_wp2_with fail
        go_ret
        exact ⟨by rw [HV.out]; rfl, Hb.out⟩
  · have HV : Hid (decide (pm.fitL a l) = false) := Lib.hid (decide_eq_false fun h => hnl (by rw [← HA.out.len]; exact pm.fitL_length h))
    rw [HV.out]
    have h2 : 2 * n ≠ 2 * l.length := by omega
    generalize l.length = m at *
    go_enter Try.func23, Try.ntmps23
    go_wp2_with fail
    go_ret
    exact ⟨rfl, Below.refl _ _⟩
end Go.Proofs.Ytdemndjenlhahaa
