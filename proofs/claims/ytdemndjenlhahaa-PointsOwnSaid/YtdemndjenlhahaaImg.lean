/- Images: what the small functions about them do. -/
import Derived.Test.YtdemndjenlhahaaInts
import Derived.Test.YtdemndjenlhahaaImgMath
import Derived.IntWalk
namespace Go.Proofs.Ytdemndjenlhahaa
open Go.RowKit


set_option maxRecDepth 100000 in
set_option maxHeartbeats 1000000 in
theorem good_any (W H : Int) (p : Option Addr) (n cap : Nat) (w : World) :
    Calls Try.prog 25 #[.agg #[.int .i64 W, .int .i64 H, .slice p n cap]] w fun e w' => e = .returned (.bool (goodB W H n)) ∧ Below w.heap.size w w' := by

  by_cases h1 : 1 ≤ W ∧ 1 ≤ H
  · by_cases h2 : W ≤ 4096 ∧ H ≤ 4096
    · obtain ⟨m1, m2, m3⟩ := sides_mul h1.1 h1.2 h2.1 h2.2
      obtain ⟨q, hq⟩ : ∃ q, q = W * H := ⟨_, rfl⟩
      have hg : Hid (goodB W H n = decide (q ≤ 65536 ∧ (n : Int) = 4 * q)) := Lib.hid (by
        unfold goodB
        refine decide_eq_decide.2 ?_
        unfold imgGood
        rw [m3, hq]
        exact ⟨fun h => ⟨h.2.2.2.2.1, h.2.2.2.2.2⟩, fun h => ⟨h1.1, h1.2, h2.1, h2.2, h.1, h.2⟩⟩)
      have e1 : IntKind.i64.wrap (W * H) = q := by rw [hq]; exact IntWalk.i64_in _ (by omega)
      have e2 : IntKind.i64.wrap (4 * W * H) = 4 * q := by rw [m3, hq]; exact IntWalk.i64_in _ (by omega)
      rw [← hq] at m1 m2
      clear m3 hq
      obtain ⟨h1, h1'⟩ := h1
      obtain ⟨h2, h2'⟩ := h2
      by_cases h3 : q ≤ 65536
      · by_cases h4 : (n : Int) = 4 * q
        · have hv : Hid (goodB W H n = true) := Lib.hid (by rw [hg.out]; exact decide_eq_true ⟨h3, h4⟩)
          have h4' : ((n : Int) == 4 * q) = true := by simpa using h4
          go_enter Try.func25, Try.ntmps25
          go_wp2
          all_goals
            go_ret
            exact ⟨by rw [hv.out]; rfl, (Below.refl _ _).alloc (Nat.le_refl _) _⟩
        · have hv : Hid (goodB W H n = false) := Lib.hid (by rw [hg.out]; exact decide_eq_false fun h => h4 h.2)
          have h4' : ((n : Int) == 4 * q) = false := by simpa using h4
          go_enter Try.func25, Try.ntmps25
          go_wp2
          all_goals
            go_ret
            exact ⟨by rw [hv.out]; rfl, (Below.refl _ _).alloc (Nat.le_refl _) _⟩
      · have hv : Hid (goodB W H n = false) := Lib.hid (by rw [hg.out]; exact decide_eq_false fun h => h3 h.1)
        go_enter Try.func25, Try.ntmps25
        go_wp2
        all_goals
          go_ret
          exact ⟨by rw [hv.out]; rfl, (Below.refl _ _).alloc (Nat.le_refl _) _⟩
    · have hv : Hid (goodB W H n = false) := Lib.hid (goodB_false fun h => h2 ⟨h.2.2.1, h.2.2.2.1⟩)
      obtain ⟨h1, h1'⟩ := h1
      go_enter Try.func25, Try.ntmps25
      go_wp2
      all_goals
        go_ret
        exact ⟨by rw [hv.out]; rfl, (Below.refl _ _).alloc (Nat.le_refl _) _⟩
  · have hv : Hid (goodB W H n = false) := Lib.hid (goodB_false fun h => h1 ⟨h.1, h.2.1⟩)
    go_enter Try.func25, Try.ntmps25
    go_wp2
    all_goals
      go_ret
      exact ⟨by rw [hv.out]; rfl, (Below.refl _ _).alloc (Nat.le_refl _) _⟩

set_option maxRecDepth 100000 in
set_option maxHeartbeats 1000000 in
theorem fits_any (W H : Int) (w : World) :
    Calls Try.prog 31 #[.int .i64 W, .int .i64 H] w fun e w' => e = .returned (.bool (fitsB W H)) ∧ w = w' := by
  by_cases h1 : 1 ≤ W ∧ 1 ≤ H
  · by_cases h2 : W ≤ 4096 ∧ H ≤ 4096
    · obtain ⟨m1, m2, m3⟩ := sides_mul h1.1 h1.2 h2.1 h2.2
      obtain ⟨q, hq⟩ : ∃ q, q = W * H := ⟨_, rfl⟩
      have hg : Hid (fitsB W H = decide (q ≤ 65536)) := Lib.hid (by
        unfold fitsB
        refine decide_eq_decide.2 ?_
        rw [hq]
        exact ⟨fun h => h.2.2.2.2, fun h => ⟨h1.1, h1.2, h2.1, h2.2, h⟩⟩)
      have e1 : IntKind.i64.wrap (W * H) = q := by rw [hq]; exact IntWalk.i64_in _ (by omega)
      rw [← hq] at m1 m2
      clear m3 hq
      obtain ⟨h1, h1'⟩ := h1
      obtain ⟨h2, h2'⟩ := h2
      by_cases h3 : q ≤ 65536
      · have hv : Hid (fitsB W H = true) := Lib.hid (by rw [hg.out]; exact decide_eq_true h3)
        go_enter Try.func31, Try.ntmps31
        go_wp2
        all_goals
          go_ret
          exact ⟨by rw [hv.out]; rfl, rfl⟩
      · have hv : Hid (fitsB W H = false) := Lib.hid (by rw [hg.out]; exact decide_eq_false h3)
        go_enter Try.func31, Try.ntmps31
        go_wp2
        all_goals
          go_ret
          exact ⟨by rw [hv.out]; rfl, rfl⟩
    · have hv : Hid (fitsB W H = false) := Lib.hid (fitsB_false fun h => h2 ⟨h.2.2.1, h.2.2.2.1⟩)
      obtain ⟨h1, h1'⟩ := h1
      rcases (show 4096 < W ∨ (W ≤ 4096 ∧ 4096 < H) by omega) with h | ⟨h, h'⟩
      all_goals
        clear h2
        go_enter Try.func31, Try.ntmps31
        go_wp2
        all_goals
          go_ret
          exact ⟨by rw [hv.out]; rfl, rfl⟩
  · have hv : Hid (fitsB W H = false) := Lib.hid (fitsB_false fun h => h1 ⟨h.1, h.2.1⟩)
    rcases (show W < 1 ∨ (1 ≤ W ∧ H < 1) by omega) with h | ⟨h, h'⟩
    all_goals
      clear h1
      go_enter Try.func31, Try.ntmps31
      go_wp2
      all_goals
        go_ret
        exact ⟨by rw [hv.out]; rfl, rfl⟩

set_option maxRecDepth 100000 in
set_option maxHeartbeats 1000000 in
theorem refGood_any (W H : Int) (p : Option Addr) (n cap : Nat) (w : World) :
    Calls Try.prog 19 #[.agg #[.int .i64 W, .int .i64 H, .slice p n cap]] w fun e w' => e = .returned (.bool (goodB W H n)) ∧ Below w.heap.size w w' := by

  by_cases hf : fitsB W H = true
  · obtain ⟨h1, h1', h2, h2', h3⟩ := of_decide_eq_true hf
    obtain ⟨m1, m2, m3⟩ := sides_mul h1 h1' h2 h2'
    have HF := Lib.hid hf
    clear hf
    obtain ⟨q, hq⟩ : ∃ q, q = W * H := ⟨_, rfl⟩
    rw [← hq] at m1 m2 h3
    have e2 : IntKind.i64.wrap (4 * W * H) = 4 * q := by rw [m3, hq]; exact IntWalk.i64_in _ (by omega)
    have hg : Hid (goodB W H n = decide ((n : Int) = 4 * q)) := Lib.hid (by
      unfold goodB
      refine decide_eq_decide.2 ?_
      unfold imgGood
      rw [m3, ← hq]
      exact ⟨fun h => h.2.2.2.2.2, fun h => ⟨h1, h1', h2, h2', h3, h⟩⟩)
    clear m3 hq
    by_cases h4 : (n : Int) = 4 * q
    · have hv : Hid (goodB W H n = true) := Lib.hid (by rw [hg.out]; exact decide_eq_true h4)
      have h4' : ((n : Int) == 4 * q) = true := by simpa using h4
      clear h4
      go_enter Try.func19, Try.ntmps19
      go_wp2_with fail
      refine (fits_any W H _).mono ?_
      rw [HF.out]
      rintro e w1 ⟨rfl, rfl⟩
      go_wp2
      go_ret
      exact ⟨by rw [hv.out]; rfl, (Below.refl _ _).alloc (Nat.le_refl _) _⟩
    · have hv : Hid (goodB W H n = false) := Lib.hid (by rw [hg.out]; exact decide_eq_false h4)
      have h4' : ((n : Int) == 4 * q) = false := by simpa using h4
      clear h4
      go_enter Try.func19, Try.ntmps19
      go_wp2_with fail
      refine (fits_any W H _).mono ?_
      rw [HF.out]
      rintro e w1 ⟨rfl, rfl⟩
      go_wp2
      go_ret
      exact ⟨by rw [hv.out]; rfl, (Below.refl _ _).alloc (Nat.le_refl _) _⟩
  · have hf' : fitsB W H = false := by simpa using hf
    have hv : Hid (goodB W H n = false) := Lib.hid (goodB_false fun h => hf (fitsB_true ⟨h.1, h.2.1, h.2.2.1, h.2.2.2.1, h.2.2.2.2.1⟩))
    have HF := Lib.hid hf'
    clear hf hf'
    go_enter Try.func19, Try.ntmps19
    go_wp2_with fail
    refine (fits_any W H _).mono ?_
    rw [HF.out]
    rintro e w1 ⟨rfl, rfl⟩
    go_wp2
    go_ret
    exact ⟨by rw [hv.out]; rfl, (Below.refl _ _).alloc (Nat.le_refl _) _⟩
end Go.Proofs.Ytdemndjenlhahaa
