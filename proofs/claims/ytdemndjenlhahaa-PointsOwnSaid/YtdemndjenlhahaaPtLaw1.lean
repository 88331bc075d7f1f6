/- The law PointsChecks, walked. -/
import Derived.Test.YtdemndjenlhahaaPtWakes
import Derived.Test.YtdemndjenlhahaaPt14
import Derived.Test.YtdemndjenlhahaaOwnI
import Derived.SizedLaws
namespace Go.Proofs.Ytdemndjenlhahaa
open Go.RowKit Go.Sort Go.ChangeShapes Go.WideShapes

theorem reach_int {cap : Nat} (z : cap * Try.prog.bytesOf 3 ≤ reachBytes) : cap * 8 ≤ 140737488351232 := by
  have h : Try.prog.bytesOf 3 = 8 := by kernel_rfl
  rw [h] at z
  unfold reachBytes at z
  omega
theorem strs_cell {w : World} {base g cap : Nat} {l : List ByteArray} (h : w.ownsRow base 9 1 (.slice (some ⟨g, 0, none⟩) l.length cap) l.length (strs l)) (k : Nat) (hk : k < l.length) : w.cell? ⟨g, k, none⟩ = some (.string (l.getD k ⟨#[]⟩)) := by
  rw [h.cellAt k (by omega)]
  have := strs_get l k hk
  simpa using this

set_option maxRecDepth 100000 in
set_option maxHeartbeats 1600000 in
theorem pointsChecks_walk (op : ByteArray) (a : Option Addr) (n cap : Nat) (l : List Int) (W : World) (s : Sl .i64 W a n cap l) (z : cap * Try.prog.bytesOf 3 ≤ reachBytes) :
    Calls Try.prog 3 #[.string op, .slice a n cap] W fun e w' => e = .returned (.bool true) ∧ Below W.heap.size W w' := by
  have z' := reach_int z
  have hn : n ≤ 17592186044416 := by have := s.fits; omega
  have hn8 : n * 8 ≤ 140737488355328 := by have := s.fits; omega
  have HA := Lib.hid s
  clear s z z'
  go_enter Try.func3, Try.ntmps3
  go_wp2_with fail
  refine (wakes_any _).mono ?_
  rintro e w1 ⟨rfl, hb1⟩
  have B1 := Lib.hid hb1
  clear hb1
  go_wp2_with fail
  refine (names_any _).mono ?_
  rintro e w2 ⟨v, rfl, ⟨g, c2, rfl, hg, hown⟩, hb2⟩
  have B2 := Lib.hid (B1.out.trans (hb2.mono B1.out.size))
  have Hown := Lib.hid hown
  clear hb2 hown hg
  go_wp2_with fail
  refine (refNames_any _).mono ?_
  rintro e w3 ⟨rfl, hw3⟩
  have H3 := Lib.hid (heap_alloc_last w2 (.cells (strs pm.names).toArray 9))
  have B3 := Lib.hid (B2.out.alloc B2.out.size (.cells (strs pm.names).toArray 9))
  have Hown3 := Lib.hid (Hown.out.alloc (.cells (strs pm.names).toArray 9))
  rw [← hw3] at H3 B3 Hown3
  clear hw3 Hown
  have hc20 : 20 ≤ c2 := by
    rcases Hown3.out.2 with ⟨h', _⟩ | ⟨g', cap', cur, h', _, _, h1, h2, _⟩
    · cases h'
    · cases h'; exact h1
  go_wp2_with fail
  go_loopg [14] 20 (fun gk i wr => ∃ k : Nat, k ≤ 20 ∧ gk = 20 - k ∧ i = .int .i64 k ∧ Below w3.heap.size w3 wr)
  case atStart => exact ⟨0, by omega, rfl, rfl, Below.refl _ _⟩
  case round =>
    obtain ⟨k, hk, hg, rfl, hb⟩ := hrel
    have Hg := Lib.hid hg
    have Hb := Lib.hid hb
    clear hg hb
    by_cases hlt : k < 20
    · have c0 := cell_regrown (keep_cell Hb.out (strs_cell (l := pm.names) Hown3.out k hlt))
      have c1 := cell_regrown (keep_cell Hb.out ((cell_of_row w3 w2.heap.size k _ _ (0, 0) H3.out).trans (strs_get pm.names k hlt)))
      have i0 : (0 : Int) ≤ (k : Int) := by omega
      have i1 : (k : Int) < 20 := by omega
      have z0 : decide ((20 : Int) ≤ (k : Int)) = false := decide_eq_false (by omega)
      generalize pm.names.getD k ⟨#[]⟩ = sk at *
      go_wp2_with fail
      refine wp_region_quiet_below (by kernel_rfl) (by kernel_rfl) ?_
      repeat (go_big_quiet_step (fail))
      refine wpQuiet_nil ?_
      intro _ hw'
      obtain ⟨⟨dq, osq⟩, hw''⟩ := hw'
      subst hw''
      have HB5 := Lib.hid (Hb.out.trans ((below_regrown wr dq osq).mono Hb.out.size))
      clear c0 c1 z0 i0 i1
      generalize grow (redrawn wr dq) osq = w5 at *
      go_wp2_with fail
      go_roundg (20 - (k + 1))
      case measure => have := Hg.out; omega
      case rel => exact ⟨k + 1, by omega, rfl, by go_num, HB5.out⟩
    · obtain rfl : k = 20 := by omega
      have B4 := Lib.hid (B3.out.trans (Hb.out.mono B3.out.size))
      go_wp2_with fail
      refine (ownI_any a n cap l _ (HA.out.below B4.out) hn8).mono ?_
      rintro e w5 ⟨v5, rfl, ⟨g5, cap5, rfl, _, hown5⟩, hb5⟩
      have B5 := Lib.hid (B4.out.trans (hb5.mono B4.out.size))
      have HA5 := Lib.hid (Fresh.sl hown5 HA.out.wf)
      clear hb5 hown5
      go_wp2_with fail
      refine (check_any op _ n cap5 l _ HA5.out).mono ?_
      rintro e w6 ⟨rfl, hb6⟩
      have B6 := Lib.hid (B5.out.trans (hb6.mono B5.out.size))
      clear hb6
      go_wp2_with fail
      refine (refCheck_any op a n cap l _ (HA.out.below B6.out) hn).mono ?_
      rintro e w7 ⟨rfl, hb7⟩
      have B7 := Lib.hid (B6.out.trans (hb7.mono B6.out.size))
      clear hb7
      generalize pm.errOf op l = E at *
      go_wp2_with fail
      go_ret
      exact ⟨rfl, B7.out⟩
end Go.Proofs.Ytdemndjenlhahaa
