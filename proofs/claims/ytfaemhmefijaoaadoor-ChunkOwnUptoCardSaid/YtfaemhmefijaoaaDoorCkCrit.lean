/- Critical, the reference's Critical; a byte of the rows. -/
import Derived.Test.YtfaemhmefijaoaaDoorCkFilt2
namespace Go.Proofs.YtfaemhmefijaoaaDoor
open Go.RowKit

def ck.crit (s : ByteArray) : Bool := decide (65 ≤ (s.data.toList.headD 0).toNat ∧ (s.data.toList.headD 0).toNat ≤ 90)
theorem ck.headD_of {s : ByteArray} (h : 0 < s.size) : s.data.toList.headD 0 = s[0] := by
  have h' : 0 < s.data.toList.length := by simpa using h
  cases hl : s.data.toList with
  | nil => rw [hl] at h'; cases h'
  | cons x l =>
    have : s[0] = s.data.toList[0]'h' := rfl
    rw [this]
    simp [hl]
theorem ck.crit_none {s : ByteArray} (h : ¬ 0 < s.size) : ck.crit s = false := by
  have : s.data.toList = [] := List.eq_nil_of_length_eq_zero (by simpa using Nat.eq_zero_of_not_pos h)
  unfold ck.crit
  rw [this]
  rfl
set_option maxRecDepth 100000 in
set_option maxHeartbeats 800000 in
theorem crit_any (s : ByteArray) (w : World) : Calls Tryd.prog 25 #[.string s] w (BoolPost (ck.crit s) w) := by
  by_cases h0 : 0 < s.size
  · obtain ⟨n1, n2⟩ := ck.ne_nil h0
    obtain ⟨c, hc⟩ : ∃ c : UInt8, s[0] = c := ⟨_, rfl⟩
    have HC : Hid (ck.crit s = decide (65 ≤ c.toNat ∧ c.toNat ≤ 90)) := Lib.hid (by unfold ck.crit; rw [ck.headD_of h0, hc])
    by_cases h1 : 65 ≤ c.toNat
    · have i1 : (65 : Int) ≤ (c.toNat : Int) := by omega
      by_cases h2 : c.toNat ≤ 90
      · have i2 : (c.toNat : Int) ≤ 90 := by omega
        have HV : Hid (ck.crit s = true) := Lib.hid (by rw [HC.out]; exact decide_eq_true ⟨h1, h2⟩)
        clear h1 h2 HC
        go_enter Tryd.func25, Tryd.ntmps25
        go_wp2_with fail
        go_ret
        exact ⟨by rw [HV.out]; rfl, rfl⟩
      · have i2 : ¬ (c.toNat : Int) ≤ 90 := by omega
        have HV : Hid (ck.crit s = false) := Lib.hid (by rw [HC.out]; exact decide_eq_false (fun h => h2 h.2))
        clear h1 h2 HC
        go_enter Tryd.func25, Tryd.ntmps25
        go_wp2_with fail
        go_ret
        exact ⟨by rw [HV.out]; rfl, rfl⟩
    · have i1 : ¬ (65 : Int) ≤ (c.toNat : Int) := by omega
      have HV : Hid (ck.crit s = false) := Lib.hid (by rw [HC.out]; exact decide_eq_false (fun h => h1 h.1))
      clear h1 HC
      go_enter Tryd.func25, Tryd.ntmps25
      go_wp2_with fail
      go_ret
      exact ⟨by rw [HV.out]; rfl, rfl⟩
  · have HV := Lib.hid (ck.crit_none h0)
    obtain rfl : s = ⟨#[]⟩ := by
      obtain ⟨d⟩ := s
      congr 1
      exact Array.eq_empty_of_size_eq_zero (Nat.eq_zero_of_not_pos h0)
    clear h0
    go_enter Tryd.func25, Tryd.ntmps25
    go_wp2_with fail
    go_ret
    exact ⟨by rw [HV.out]; rfl, rfl⟩
set_option maxRecDepth 100000 in
set_option maxHeartbeats 800000 in
theorem refcrit_any (s : ByteArray) (w : World) : Calls Tryd.prog 26 #[.string s] w (BoolPost (ck.crit s) w) := by
  by_cases h0 : 0 < s.size
  · obtain ⟨c, hc⟩ : ∃ c : UInt8, s[0] = c := ⟨_, rfl⟩
    have HC : Hid (ck.crit s = decide (65 ≤ c.toNat ∧ c.toNat ≤ 90)) := Lib.hid (by unfold ck.crit; rw [ck.headD_of h0, hc])
    have hs : (0 : Int) < (s.size : Int) := by omega
    by_cases h1 : 65 ≤ c.toNat
    · have i1 : (65 : Int) ≤ (c.toNat : Int) := by omega
      by_cases h2 : c.toNat ≤ 90
      · have i2 : (c.toNat : Int) ≤ 90 := by omega
        have HV : Hid (ck.crit s = true) := Lib.hid (by rw [HC.out]; exact decide_eq_true ⟨h1, h2⟩)
        clear h1 h2 HC
        go_enter Tryd.func26, Tryd.ntmps26
        go_wp2_with fail
        go_ret
        exact ⟨by rw [HV.out]; rfl, rfl⟩
      · have i2 : ¬ (c.toNat : Int) ≤ 90 := by omega
        have HV : Hid (ck.crit s = false) := Lib.hid (by rw [HC.out]; exact decide_eq_false (fun h => h2 h.2))
        clear h1 h2 HC
        go_enter Tryd.func26, Tryd.ntmps26
        go_wp2_with fail
        go_ret
        exact ⟨by rw [HV.out]; rfl, rfl⟩
    · have i1 : ¬ (65 : Int) ≤ (c.toNat : Int) := by omega
      have HV : Hid (ck.crit s = false) := Lib.hid (by rw [HC.out]; exact decide_eq_false (fun h => h1 h.1))
      clear h1 HC
      go_enter Tryd.func26, Tryd.ntmps26
      go_wp2_with fail
      go_ret
      exact ⟨by rw [HV.out]; rfl, rfl⟩
  · have HV := Lib.hid (ck.crit_none h0)
    have hs : ¬ (0 : Int) < (s.size : Int) := by omega
    have hs0 : s.size = 0 := Nat.eq_zero_of_not_pos h0
    clear h0
    go_enter Tryd.func26, Tryd.ntmps26
    go_wp2_with fail
    go_ret
    exact ⟨by rw [HV.out]; rfl, rfl⟩

/-- a byte of the rows, 0 outside -/
def ck.atI (l : List Int) (width x y : Int) : Int := if x < 0 ∨ y < 0 then 0 else l.getD (y * width + x).toNat 0
set_option maxRecDepth 100000 in
set_option maxHeartbeats 800000 in
theorem at_any (a : Option Addr) (n cap : Nat) (l : List Int) (width x y : Int) (w : World) (h : Sl .u8 w a n cap l) (hw1 : 1 ≤ width) (hw2 : width ≤ 1048576) (hx : -16 ≤ x) (hx2 : x ≤ 1048576) (hy1 : -1 ≤ y) (hy2 : y ≤ 140737488355328) (hi : 0 ≤ x → 0 ≤ y → y * width + x < n) :
    Calls Tryd.prog 43 #[.slice a n cap, .int .i64 width, .int .i64 x, .int .i64 y] w (IntPost (ck.atI l width x y) w) := by
  have HM := Lib.hid h
  have hf := h.fits
  have hm := h.most
  unfold maxLen at hm
  clear h
  by_cases h1 : x < 0
  · have HV : Hid (ck.atI l width x y = 0) := Lib.hid (if_pos (.inl h1))
    rw [HV.out]
    go_enter Tryd.func43, Tryd.ntmps43
    go_wp2_with fail
    go_ret
    exact ⟨rfl, rfl⟩
  · by_cases h2 : y < 0
    · have HV : Hid (ck.atI l width x y = 0) := Lib.hid (if_pos (.inr h2))
      rw [HV.out]
      go_enter Tryd.func43, Tryd.ntmps43
      go_wp2_with fail
      go_ret
      exact ⟨rfl, rfl⟩
    · have hi' := hi (by omega) (by omega)
      have hyw : 0 ≤ y * width := Int.mul_nonneg (by omega) (by omega)
      obtain ⟨p, hp⟩ : ∃ p, y * width = p := ⟨_, rfl⟩
      rw [hp] at hi' hyw
      obtain ⟨k, hk⟩ : ∃ k : Nat, p + x = k := ⟨(p + x).toNat, by omega⟩
      have HV : Hid (ck.atI l width x y = l.getD k 0) := Lib.hid (by unfold ck.atI; rw [if_neg (by omega), hp, hk]; rfl)
      rw [HV.out]
      have hkn : k < n := by omega
      obtain ⟨b, off, rfl, hcell⟩ := HM.out.cells (by omega)
      have c1 := hcell k hkn
      have hb1 := byte_getD HM.out.bytes k
      obtain ⟨v, hv⟩ : ∃ v, l.getD k 0 = v := ⟨_, rfl⟩
      rw [hv] at c1 hb1 ⊢
      obtain ⟨hv1, hv2⟩ := hb1
      have hw3 : IntKind.i64.wrap (y * width) = p := by rw [hp]; exact IntWalk.i64_in _ (by omega)
      have HP := Lib.hid hp
      clear hi hcell hv
      go_enter Tryd.func43, Tryd.ntmps43
      go_wp2_with fail
      go_ret
      exact ⟨rfl, rfl⟩
set_option maxRecDepth 100000 in
set_option maxHeartbeats 800000 in
theorem corner_any (a : Option Addr) (n cap : Nat) (l : List Int) (width x y : Int) (w : World) (h : Sl .u8 w a n cap l) (hw1 : 1 ≤ width) (hw2 : width ≤ 1048576) (hx : -16 ≤ x) (hx2 : x ≤ 1048576) (hy1 : -1 ≤ y) (hy2 : y ≤ 140737488355328) (hi : 0 ≤ x → 0 ≤ y → y * width + x < n) :
    Calls Tryd.prog 44 #[.slice a n cap, .int .i64 width, .int .i64 x, .int .i64 y] w (IntPost (ck.atI l width x y) w) := by
  have HM := Lib.hid h
  have hf := h.fits
  have hm := h.most
  unfold maxLen at hm
  clear h
  by_cases h1 : x < 0
  · have HV : Hid (ck.atI l width x y = 0) := Lib.hid (if_pos (.inl h1))
    rw [HV.out]
    go_enter Tryd.func44, Tryd.ntmps44
    go_wp2_with fail
    go_ret
    exact ⟨rfl, rfl⟩
  · by_cases h2 : y < 0
    · have HV : Hid (ck.atI l width x y = 0) := Lib.hid (if_pos (.inr h2))
      rw [HV.out]
      go_enter Tryd.func44, Tryd.ntmps44
      go_wp2_with fail
      go_ret
      exact ⟨rfl, rfl⟩
    · have hi' := hi (by omega) (by omega)
      have hyw : 0 ≤ y * width := Int.mul_nonneg (by omega) (by omega)
      obtain ⟨p, hp⟩ : ∃ p, y * width = p := ⟨_, rfl⟩
      rw [hp] at hi' hyw
      obtain ⟨k, hk⟩ : ∃ k : Nat, p + x = k := ⟨(p + x).toNat, by omega⟩
      have HV : Hid (ck.atI l width x y = l.getD k 0) := Lib.hid (by unfold ck.atI; rw [if_neg (by omega), hp, hk]; rfl)
      rw [HV.out]
      have hkn : k < n := by omega
      obtain ⟨b, off, rfl, hcell⟩ := HM.out.cells (by omega)
      have c1 := hcell k hkn
      have hb1 := byte_getD HM.out.bytes k
      obtain ⟨v, hv⟩ : ∃ v, l.getD k 0 = v := ⟨_, rfl⟩
      rw [hv] at c1 hb1 ⊢
      obtain ⟨hv1, hv2⟩ := hb1
      have hw3 : IntKind.i64.wrap (y * width) = p := by rw [hp]; exact IntWalk.i64_in _ (by omega)
      have HP := Lib.hid hp
      clear hi hcell hv
      go_enter Tryd.func44, Tryd.ntmps44
      go_wp2_with fail
      go_ret
      exact ⟨rfl, rfl⟩
end Go.Proofs.YtfaemhmefijaoaaDoor
