/- What a byte is filtered by: the program's guess, and the document's. -/
import Derived.Test.YtfaemhmefijaoaaDoorCkEnds
namespace Go.Proofs.YtfaemhmefijaoaaDoor
open Go.RowKit

namespace ck
def paeth (a b c : Int) : Int :=
  if (a + b - c - a).natAbs ≤ (a + b - c - b).natAbs ∧ (a + b - c - a).natAbs ≤ (a + b - c - c).natAbs then a
  else if (a + b - c - b).natAbs ≤ (a + b - c - c).natAbs then b else c
def gs (kind a b c : Int) : Int := if kind = 1 then a else if kind = 2 then b else if kind = 3 then (a + b) / 2 else if kind = 4 then paeth a b c else 0
def byteI (x : Int) : Prop := 0 ≤ x ∧ x < 256
theorem paeth_byte {a b c : Int} (ha : byteI a) (hb : byteI b) (hc : byteI c) : byteI (paeth a b c) := by
  unfold paeth
  split
  · exact ha
  · split
    · exact hb
    · exact hc
theorem gs_byte {k a b c : Int} (ha : byteI a) (hb : byteI b) (hc : byteI c) : byteI (gs k a b c) := by
  unfold gs
  split
  · exact ha
  · split
    · exact hb
    · split
      · unfold byteI at *; omega
      · split
        · exact paeth_byte ha hb hc
        · exact ⟨by decide, by decide⟩
def fitB (width bpp : Int) : Bool := decide (1 ≤ width ∧ width ≤ 1048576 ∧ 1 ≤ bpp ∧ bpp ≤ 8)
end ck

set_option maxRecDepth 100000 in
theorem fit_any (a b : Int) (w : World) : Calls Tryd.prog 38 #[.int .i64 a, .int .i64 b] w (BoolPost (ck.fitB a b) w) := by
  have key : ∀ (x y z u : Bool), decide (1 ≤ a) = x → decide (a ≤ 1048576) = y → decide (1 ≤ b) = z → decide (b ≤ 8) = u → Calls Tryd.prog 38 #[.int .i64 a, .int .i64 b] w (BoolPost (x && y && z && u) w) := by
    intro x y z u h1 h2 h3 h4
    cases x <;> cases y <;> cases z <;> cases u
    all_goals
      go_enter Tryd.func38, Tryd.ntmps38
      go_wp2_with fail
      go_ret
      exact ⟨rfl, rfl⟩
  have h := key _ _ _ _ rfl rfl rfl rfl
  have e : (decide (1 ≤ a) && decide (a ≤ 1048576) && decide (1 ≤ b) && decide (b ≤ 8)) = ck.fitB a b := by
    unfold ck.fitB
    rw [Bool.eq_iff_iff]
    simp [and_assoc]
  rw [e] at h
  exact h
set_option maxRecDepth 100000 in
theorem bad_any (a b : Int) (w : World) : Calls Tryd.prog 41 #[.int .i64 a, .int .i64 b] w (BoolPost (!ck.fitB a b) w) := by
  have key : ∀ (x y z u : Bool), decide (a < 1) = x → decide (1048576 < a) = y → decide (b < 1) = z → decide (8 < b) = u → Calls Tryd.prog 41 #[.int .i64 a, .int .i64 b] w (BoolPost (x || y || z || u) w) := by
    intro x y z u h1 h2 h3 h4
    cases x <;> cases y <;> cases z <;> cases u
    all_goals
      go_enter Tryd.func41, Tryd.ntmps41
      go_wp2_with fail
      go_ret
      exact ⟨rfl, rfl⟩
  have h := key _ _ _ _ rfl rfl rfl rfl
  have e : (decide (a < 1) || decide (1048576 < a) || decide (b < 1) || decide (8 < b)) = !ck.fitB a b := by
    unfold ck.fitB
    rw [Bool.eq_iff_iff]
    simp only [Bool.or_eq_true, decide_eq_true_eq, Bool.not_eq_true', decide_eq_false_iff_not]
    omega
  rw [e] at h
  exact h

def IntPost (v : Int) (w : World) (e : Ending) (w' : World) : Prop := e = .returned (.int .i64 v) ∧ w = w'
set_option maxRecDepth 100000 in
theorem abs_any (v : Int) (w : World) (h1 : -100000 ≤ v) (h2 : v ≤ 100000) : Calls Tryd.prog 53 #[.int .i64 v] w (IntPost v.natAbs w) := by
  have key : Calls Tryd.prog 53 #[.int .i64 v] w (fun e w' => (∃ u : Int, e = .returned (.int .i64 u) ∧ ((u = v ∧ -v ≤ v) ∨ (u = -v ∧ v ≤ -v))) ∧ w = w') := by
    go_enter Tryd.func53, Tryd.ntmps53
    go_wp2_with fail
    all_goals
      go_ret
      refine ⟨⟨_, rfl, ?_⟩, rfl⟩
      omega
  refine key.mono fun e w' ⟨⟨u, he, hu⟩, hw⟩ => ⟨?_, hw⟩
  rw [he, show u = ((v.natAbs : Nat) : Int) by omega]
set_option maxRecDepth 100000 in
theorem size_any (v : Int) (w : World) (h1 : -100000 ≤ v) (h2 : v ≤ 100000) : Calls Tryd.prog 54 #[.int .i64 v] w (IntPost v.natAbs w) := by
  by_cases h : v < 0
  · have e : Hid (((v.natAbs : Nat) : Int) = -v) := Lib.hid (by omega)
    go_enter Tryd.func54, Tryd.ntmps54
    go_wp2_with fail
    go_ret
    exact ⟨by rw [e.out] <;> rfl, rfl⟩
  · have e : Hid (((v.natAbs : Nat) : Int) = v) := Lib.hid (by omega)
    go_enter Tryd.func54, Tryd.ntmps54
    go_wp2_with fail
    go_ret
    exact ⟨by rw [e.out] <;> rfl, rfl⟩

def BytePost (v : Int) (w : World) (e : Ending) (w' : World) : Prop := e = .returned (.int .u8 v) ∧ w = w'
set_option maxRecDepth 100000 in
set_option maxHeartbeats 1600000 in
theorem guess_any (k a b c : Int) (w : World) (hk : ck.byteI k) (ha : ck.byteI a) (hb : ck.byteI b) (hc : ck.byteI c) : Calls Tryd.prog 40 #[.int .u8 k, .int .u8 a, .int .u8 b, .int .u8 c] w (BytePost (ck.gs k a b c) w) := by
  obtain ⟨k1, k2⟩ := hk
  obtain ⟨a1, a2⟩ := ha
  obtain ⟨b1, b2⟩ := hb
  obtain ⟨c1, c2⟩ := hc
  by_cases q1 : k = 1
  · subst q1
    go_enter Tryd.func40, Tryd.ntmps40
    go_wp2_with fail
    go_ret
    exact ⟨rfl, rfl⟩
  have e1 : (k == 1) = false := by simpa using q1
  by_cases q2 : k = 2
  · subst q2
    clear e1 q1
    go_enter Tryd.func40, Tryd.ntmps40
    go_wp2_with fail
    go_ret
    exact ⟨rfl, rfl⟩
  have e2 : (k == 2) = false := by simpa using q2
  by_cases q3 : k = 3
  · subst q3
    clear e1 q1 e2 q2
    go_enter Tryd.func40, Tryd.ntmps40
    go_wp2_with fail
    go_ret
    exact ⟨rfl, rfl⟩
  have e3 : (k == 3) = false := by simpa using q3
  by_cases q4 : k = 4
  · subst q4
    clear e1 q1 e2 q2 e3 q3
    have HG : Hid (ck.gs 4 a b c = ck.paeth a b c) := Lib.hid rfl
    have HP : Hid (ck.paeth a b c = if (a + b - c - a).natAbs ≤ (a + b - c - b).natAbs ∧ (a + b - c - a).natAbs ≤ (a + b - c - c).natAbs then a else if (a + b - c - b).natAbs ≤ (a + b - c - c).natAbs then b else c) := Lib.hid rfl
    go_enter Tryd.func40, Tryd.ntmps40
    go_wp2_with fail
    refine (abs_any _ _ (by omega) (by omega)).mono ?_
    rintro e w1 ⟨rfl, rfl⟩
    go_wp2_with fail
    refine (abs_any _ _ (by omega) (by omega)).mono ?_
    rintro e w1 ⟨rfl, rfl⟩
    go_wp2_with fail
    refine (abs_any _ _ (by omega) (by omega)).mono ?_
    rintro e w1 ⟨rfl, rfl⟩
    obtain ⟨x, hx⟩ : ∃ x, (a + b - c - a).natAbs = x := ⟨_, rfl⟩
    obtain ⟨y, hy⟩ : ∃ x, (a + b - c - b).natAbs = x := ⟨_, rfl⟩
    obtain ⟨z, hz⟩ : ∃ x, (a + b - c - c).natAbs = x := ⟨_, rfl⟩
    rw [hx, hy, hz] at HP ⊢
    clear hx hy hz
    by_cases r1 : x ≤ y
    · have f1 : (x : Int) ≤ (y : Int) := by omega
      by_cases r2 : x ≤ z
      · have f2 : (x : Int) ≤ (z : Int) := by omega
        have HV := Lib.hid (HP.out.trans (if_pos ⟨r1, r2⟩))
        clear r1 r2 HP
        go_wp2_with fail
        go_ret
        exact ⟨by rw [HG.out, HV.out] <;> rfl, rfl⟩
      · have f2 : ¬ (x : Int) ≤ (z : Int) := by omega
        have HV := HP.out.trans (if_neg (fun h => r2 h.2))
        by_cases r3 : y ≤ z
        · exact absurd (Nat.le_trans r1 r3) r2
        · have f3 : ¬ (y : Int) ≤ (z : Int) := by omega
          have HV' := Lib.hid (HV.trans (if_neg r3))
          clear r1 r2 r3 HP HV
          go_wp2_with fail
          go_ret
          exact ⟨by rw [HG.out, HV'.out] <;> rfl, rfl⟩
    · have f1 : ¬ (x : Int) ≤ (y : Int) := by omega
      have HV := HP.out.trans (if_neg (fun h => r1 h.1))
      by_cases r3 : y ≤ z
      · have f3 : (y : Int) ≤ (z : Int) := by omega
        have HV' := Lib.hid (HV.trans (if_pos r3))
        clear r1 r3 HP HV
        go_wp2_with fail
        go_ret
        exact ⟨by rw [HG.out, HV'.out] <;> rfl, rfl⟩
      · have f3 : ¬ (y : Int) ≤ (z : Int) := by omega
        have HV' := Lib.hid (HV.trans (if_neg r3))
        clear r1 r3 HP HV
        go_wp2_with fail
        go_ret
        exact ⟨by rw [HG.out, HV'.out] <;> rfl, rfl⟩
  have e4 : (k == 4) = false := by simpa using q4
  have HV : Hid (ck.gs k a b c = 0) := Lib.hid (by unfold ck.gs; rw [if_neg q1, if_neg q2, if_neg q3, if_neg q4])
  clear q1 q2 q3 q4
  go_enter Tryd.func40, Tryd.ntmps40
  go_wp2_with fail
  go_ret
  exact ⟨by rw [HV.out] <;> rfl, rfl⟩

set_option maxRecDepth 100000 in
set_option maxHeartbeats 1600000 in
theorem refguess_any (k a b c : Int) (w : World) (hk : ck.byteI k) (ha : ck.byteI a) (hb : ck.byteI b) (hc : ck.byteI c) : Calls Tryd.prog 42 #[.int .i64 k, .int .i64 a, .int .i64 b, .int .i64 c] w (IntPost (ck.gs k a b c) w) := by
  obtain ⟨k1, k2⟩ := hk
  obtain ⟨a1, a2⟩ := ha
  obtain ⟨b1, b2⟩ := hb
  obtain ⟨c1, c2⟩ := hc
  by_cases q1 : k = 1
  · subst q1
    go_enter Tryd.func42, Tryd.ntmps42
    go_wp2_with fail
    go_ret
    exact ⟨rfl, rfl⟩
  have e1 : (k == 1) = false := by simpa using q1
  by_cases q2 : k = 2
  · subst q2
    clear e1 q1
    go_enter Tryd.func42, Tryd.ntmps42
    go_wp2_with fail
    go_ret
    exact ⟨rfl, rfl⟩
  have e2 : (k == 2) = false := by simpa using q2
  by_cases q3 : k = 3
  · subst q3
    clear e1 q1 e2 q2
    go_enter Tryd.func42, Tryd.ntmps42
    go_wp2_with fail
    go_ret
    exact ⟨rfl, rfl⟩
  have e3 : (k == 3) = false := by simpa using q3
  by_cases q4 : k = 4
  · subst q4
    clear e1 q1 e2 q2 e3 q3
    have HG : Hid (ck.gs 4 a b c = ck.paeth a b c) := Lib.hid rfl
    have HP : Hid (ck.paeth a b c = if (a + b - c - a).natAbs ≤ (a + b - c - b).natAbs ∧ (a + b - c - a).natAbs ≤ (a + b - c - c).natAbs then a else if (a + b - c - b).natAbs ≤ (a + b - c - c).natAbs then b else c) := Lib.hid rfl
    have HA : Hid (∀ (v : Int) (w : World), -100000 ≤ v → v ≤ 100000 → Calls Tryd.prog 54 #[.int .i64 v] w (IntPost v.natAbs w)) := Lib.hid (fun v w h1 h2 => size_any v w h1 h2)
    obtain ⟨x, hx⟩ : ∃ x, (a + b - c - a).natAbs = x := ⟨_, rfl⟩
    obtain ⟨y, hy⟩ : ∃ x, (a + b - c - b).natAbs = x := ⟨_, rfl⟩
    obtain ⟨z, hz⟩ : ∃ x, (a + b - c - c).natAbs = x := ⟨_, rfl⟩
    rw [hx, hy, hz] at HP
    have HX : Hid (∀ w, Calls Tryd.prog 54 #[.int .i64 (a + b - c - a)] w (IntPost x w)) := Lib.hid (fun w => by have := HA.out (a + b - c - a) w (by omega) (by omega); rwa [hx] at this)
    have HY : Hid (∀ w, Calls Tryd.prog 54 #[.int .i64 (a + b - c - b)] w (IntPost y w)) := Lib.hid (fun w => by have := HA.out (a + b - c - b) w (by omega) (by omega); rwa [hy] at this)
    have HZ : Hid (∀ w, Calls Tryd.prog 54 #[.int .i64 (a + b - c - c)] w (IntPost z w)) := Lib.hid (fun w => by have := HA.out (a + b - c - c) w (by omega) (by omega); rwa [hz] at this)
    clear hx hy hz HA
    by_cases r1 : x ≤ y
    · have f1 : (x : Int) ≤ (y : Int) := by omega
      by_cases r2 : x ≤ z
      · have f2 : (x : Int) ≤ (z : Int) := by omega
        have HV := Lib.hid (HP.out.trans (if_pos ⟨r1, r2⟩))
        clear r1 r2 HP
        go_enter Tryd.func42, Tryd.ntmps42
        go_wp2_with fail
        refine (HX.out _).mono ?_
        rintro e w1 ⟨rfl, rfl⟩
        go_wp2_with fail
        refine (HY.out _).mono ?_
        rintro e w1 ⟨rfl, rfl⟩
        go_wp2_with fail
        refine (HX.out _).mono ?_
        rintro e w1 ⟨rfl, rfl⟩
        go_wp2_with fail
        refine (HZ.out _).mono ?_
        rintro e w1 ⟨rfl, rfl⟩
        go_wp2_with fail
        go_ret
        exact ⟨by rw [HG.out, HV.out] <;> rfl, rfl⟩
      · have f2 : ¬ (x : Int) ≤ (z : Int) := by omega
        have f2' : decide ((x : Int) ≤ (z : Int)) = false := by simp; omega
        have HV := HP.out.trans (if_neg (fun h => r2 h.2))
        have f3 : ¬ (y : Int) ≤ (z : Int) := by omega
        have HV' := Lib.hid (HV.trans (if_neg (by omega)))
        clear r1 r2 HP HV
        go_enter Tryd.func42, Tryd.ntmps42
        go_wp2_with fail
        refine (HX.out _).mono ?_
        rintro e w1 ⟨rfl, rfl⟩
        go_wp2_with fail
        refine (HY.out _).mono ?_
        rintro e w1 ⟨rfl, rfl⟩
        go_wp2_with fail
        refine (HX.out _).mono ?_
        rintro e w1 ⟨rfl, rfl⟩
        go_wp2_with fail
        refine (HZ.out _).mono ?_
        rintro e w1 ⟨rfl, rfl⟩
        go_wp2_with fail
        refine (HY.out _).mono ?_
        rintro e w1 ⟨rfl, rfl⟩
        go_wp2_with fail
        refine (HZ.out _).mono ?_
        rintro e w1 ⟨rfl, rfl⟩
        go_wp2_with fail
        go_ret
        exact ⟨by rw [HG.out, HV'.out] <;> rfl, rfl⟩
    · have f1 : ¬ (x : Int) ≤ (y : Int) := by omega
      have f1' : decide ((x : Int) ≤ (y : Int)) = false := by simp; omega
      have HV := HP.out.trans (if_neg (fun h => r1 h.1))
      by_cases r3 : y ≤ z
      all_goals
        first
          | (have f3 : (y : Int) ≤ (z : Int) := by omega)
          | (have f3 : ¬ (y : Int) ≤ (z : Int) := by omega)
        first
          | have HV' := Lib.hid (HV.trans (if_pos r3))
          | have HV' := Lib.hid (HV.trans (if_neg r3))
        clear r1 r3 HP HV
        go_enter Tryd.func42, Tryd.ntmps42
        go_wp2_with fail
        refine (HX.out _).mono ?_
        rintro e w1 ⟨rfl, rfl⟩
        go_wp2_with fail
        refine (HY.out _).mono ?_
        rintro e w1 ⟨rfl, rfl⟩
        go_wp2_with fail
        refine (HY.out _).mono ?_
        rintro e w1 ⟨rfl, rfl⟩
        go_wp2_with fail
        refine (HZ.out _).mono ?_
        rintro e w1 ⟨rfl, rfl⟩
        go_wp2_with fail
        go_ret
        exact ⟨by rw [HG.out, HV'.out] <;> rfl, rfl⟩
  have e4 : (k == 4) = false := by simpa using q4
  have HV : Hid (ck.gs k a b c = 0) := Lib.hid (by unfold ck.gs; rw [if_neg q1, if_neg q2, if_neg q3, if_neg q4])
  clear q1 q2 q3 q4
  go_enter Tryd.func42, Tryd.ntmps42
  go_wp2_with fail
  go_ret
  exact ⟨by rw [HV.out] <;> rfl, rfl⟩
end Go.Proofs.YtfaemhmefijaoaaDoor
