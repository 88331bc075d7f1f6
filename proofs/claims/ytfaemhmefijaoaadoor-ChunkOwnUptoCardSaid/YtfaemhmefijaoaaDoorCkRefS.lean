/- The reference's small functions: Sign, letters, four, Get. -/
import Derived.Test.YtfaemhmefijaoaaDoorCkFilt2
import Derived.LoopN
namespace Go.Proofs.YtfaemhmefijaoaaDoor
open Go.RowKit Go.Sort

theorem sign_any (w : World) : Calls Tryd.prog 30 #[] w fun e w' => e = .returned (.slice (some ⟨w.heap.size, 0, none⟩) 8 8) ∧ w.alloc (.cells #[.int .u8 137, .int .u8 80, .int .u8 78, .int .u8 71, .int .u8 13, .int .u8 10, .int .u8 26, .int .u8 10] 5) = w' := by
  go_enter Tryd.func30, Tryd.ntmps30
  go_wp2
  go_ret
  exact ⟨rfl, rfl⟩
theorem four_any (c : Nat) (w : World) (hc : c < 4294967296) : Calls Tryd.prog 37 #[.int .u32 (c : Nat)] w fun e w' => e = .returned (.slice (some ⟨w.heap.size, 0, none⟩) 4 4) ∧ w.alloc (.cells ((ck.be4 c).map (Value.int .u8)).toArray 5) = w' := by
  have BN : Hid (((ck.be4 c).map (Value.int .u8)) = [.int .u8 ((c : Int) / 16777216), .int .u8 ((c : Int) / 65536 % 256), .int .u8 ((c : Int) / 256 % 256), .int .u8 ((c : Int) % 256)]) := Lib.hid (by simp [ck.be4])
  rw [BN.out]
  go_enter Tryd.func37, Tryd.ntmps37
  go_wp2
  go_ret
  exact ⟨rfl, rfl⟩

set_option maxRecDepth 100000 in
set_option maxHeartbeats 1600000 in
theorem refletters_any (s : ByteArray) (w : World) (hs : s.size ≤ maxLen) : Calls Tryd.prog 32 #[.string s] w (BoolPost (ck.letters4 s) w) := by
  unfold maxLen at hs
  go_enter Tryd.func32, Tryd.ntmps32
  go_wp2_with fail
  go_loopg [3] s.size (fun gk i wr => ∃ k : Nat, k ≤ s.size ∧ gk = s.size - k ∧ i = .int .i64 k ∧ (s.data.toList.take k).all ck.isLet = true ∧ wr = w)
  case atStart => exact ⟨0, Nat.zero_le _, rfl, rfl, rfl, rfl⟩
  case round =>
    obtain ⟨k, hk, hg, rfl, ha, rfl⟩ := hrel
    have Hg := Lib.hid hg
    have HA := Lib.hid ha
    clear hg ha
    by_cases hlt : k < s.size
    · have HT := Lib.hid (ck.take_snoc s k hlt)
      obtain ⟨c, hc⟩ : ∃ c : UInt8, s[k] = c := ⟨_, rfl⟩
      have HC := Lib.hid hc
      by_cases hlet : ck.isLet c = true
      · have HS : Hid ((s.data.toList.take (k + 1)).all ck.isLet = true) := Lib.hid (by rw [HT.out, List.all_append, HA.out, hc]; simp [hlet])
        have hcs : (65 ≤ c.toNat ∧ c.toNat ≤ 90) ∨ ((¬ (65 ≤ c.toNat ∧ c.toNat ≤ 90)) ∧ 97 ≤ c.toNat ∧ c.toNat ≤ 122) := by
          simp [ck.isLet] at hlet
          omega
        clear hlet
        rcases hcs with ⟨h1, h2⟩ | ⟨h1, h2, h3⟩
        · have i1 : (65 : Int) ≤ (c.toNat : Int) := by omega
          have i2 : (c.toNat : Int) ≤ 90 := by omega
          go_wp2_with fail
          go_roundg (s.size - (k + 1))
          case measure => have := Hg.out; omega
          case rel => exact ⟨k + 1, by omega, rfl, by go_num, HS.out, rfl⟩
        · have i1 : (65 : Int) ≤ (c.toNat : Int) := by omega
          have i2 : ¬ (c.toNat : Int) ≤ 90 := by omega
          have i3 : (97 : Int) ≤ (c.toNat : Int) := by omega
          have i4 : (c.toNat : Int) ≤ 122 := by omega
          go_wp2_with fail
          go_roundg (s.size - (k + 1))
          case measure => have := Hg.out; omega
          case rel => exact ⟨k + 1, by omega, rfl, by go_num, HS.out, rfl⟩
      · have HV : Hid (ck.letters4 s = false) := Lib.hid (by
          have h1 : s.data.toList.all ck.isLet = false := by
            rw [List.all_eq_false]
            refine ⟨c, ?_, hlet⟩
            rw [← hc]
            exact List.getElem_mem (l := s.data.toList) (by simpa using hlt)
          unfold ck.letters4
          rw [h1, Bool.and_false])
        have hcs : (¬ 65 ≤ c.toNat) ∨ (90 < c.toNat ∧ c.toNat < 97) ∨ 122 < c.toNat := by
          simp [ck.isLet] at hlet
          omega
        clear hlet
        rcases hcs with h1 | ⟨h1, h2⟩ | h1
        · have i1 : ¬ (65 : Int) ≤ (c.toNat : Int) := by omega
          have i2 : ¬ (97 : Int) ≤ (c.toNat : Int) := by omega
          go_wp2_with fail
          go_ret
          exact ⟨by rw [HV.out]; rfl, rfl⟩
        · have i1 : (65 : Int) ≤ (c.toNat : Int) := by omega
          have i2 : ¬ (c.toNat : Int) ≤ 90 := by omega
          have i3 : ¬ (97 : Int) ≤ (c.toNat : Int) := by omega
          go_wp2_with fail
          go_ret
          exact ⟨by rw [HV.out]; rfl, rfl⟩
        · have i1 : (65 : Int) ≤ (c.toNat : Int) := by omega
          have i2 : ¬ (c.toNat : Int) ≤ 90 := by omega
          have i3 : (97 : Int) ≤ (c.toNat : Int) := by omega
          have i4 : ¬ (c.toNat : Int) ≤ 122 := by omega
          go_wp2_with fail
          go_ret
          exact ⟨by rw [HV.out]; rfl, rfl⟩
    · obtain rfl : k = s.size := by omega
      have hal : s.data.toList.all ck.isLet = true := by
        have := HA.out
        rwa [List.take_of_length_le (by simp)] at this
      have hl : Hid (ck.letters4 s = (s.size == 4)) := Lib.hid (by unfold ck.letters4; rw [hal, Bool.and_true])
      clear hlt hal
      by_cases h4 : s.size = 4
      · have h5 : ((s.size : Int) == 4) = true := by simp; omega
        have HV : Hid (ck.letters4 s = true) := Lib.hid (by rw [hl.out]; simpa using h4)
        clear h4 hl
        go_wp2_with fail
        go_ret
        exact ⟨by rw [HV.out]; rfl, rfl⟩
      · have h5 : ((s.size : Int) == 4) = false := by simp; omega
        have HV : Hid (ck.letters4 s = false) := Lib.hid (by rw [hl.out]; simpa using h4)
        clear h4 hl
        go_wp2_with fail
        go_ret
        exact ⟨by rw [HV.out]; rfl, rfl⟩

/-- the number so far -/
def ck.getAt (l : List Int) (o : Nat) : Nat → Nat
  | 0 => 0
  | i + 1 => 256 * ck.getAt l o i + (l.getD (o + i) 0).toNat
theorem ck.getAt_four (l : List Int) (o : Nat) : ck.getAt l o 4 = ck.be32 (l.drop o) := by
  have e : ∀ i, (l.drop o).getD i 0 = l.getD (o + i) 0 := fun i => by rw [List.getD_eq_getElem?_getD, List.getD_eq_getElem?_getD, List.getElem?_drop]
  simp only [ck.getAt, ck.be32, e]
  omega
def GetPost (v : Nat) (E : Int) (w : World) (e : Ending) (w' : World) : Prop := e = .returned (.tuple #[.int .u32 (v : Nat), .int .i64 E]) ∧ w = w'
set_option maxRecDepth 100000 in
set_option maxHeartbeats 1600000 in
theorem get_any (a : Option Addr) (n cap : Nat) (l : List Int) (o : Nat) (w : World) (h : Sl .u8 w a n cap l) (hn : n ≤ 140737488355328) (ho : o ≤ n) :
    Calls Tryd.prog 31 #[.slice a n cap, .int .i64 o, .int .i64 4, .bool true] w (GetPost (if o + 4 ≤ n then ck.be32 (l.drop o) else 0) (if o + 4 ≤ n then 0 else 5) w) := by
  have HS := Lib.hid h
  have hfit := h.fits
  clear h
  by_cases h4 : o + 4 ≤ n
  · have HV : Hid ((if o + 4 ≤ n then ck.be32 (l.drop o) else 0) = ck.getAt l o 4) := Lib.hid (by rw [if_pos h4, ck.getAt_four])
    have HE : Hid ((if o + 4 ≤ n then (0 : Int) else 5) = 0) := Lib.hid (if_pos h4)
    rw [HV.out, HE.out]
    obtain ⟨b, off, rfl, hcell⟩ := HS.out.cells (by omega)
    have HC := Lib.hid hcell
    have HB : Hid (∀ i, ck.byteI (l.getD i 0)) := Lib.hid (fun i => byte_getD HS.out.bytes i)
    clear hcell HV HE
    go_enter Tryd.func31, Tryd.ntmps31
    go_wp2_with fail
    go_loopg [10, 11] 4 (fun gk v i wr => ∃ k : Nat, k ≤ 4 ∧ gk = 4 - k ∧ i = .int .i64 k ∧ v = .int .u32 (ck.getAt l o k : Nat) ∧ ck.getAt l o k < 256 ^ k ∧ wr = w)
    case atStart => exact ⟨0, Nat.zero_le _, rfl, rfl, rfl, (by rw [ck.getAt]; decide), rfl⟩
    case round =>
      obtain ⟨k, hk, hg, rfl, rfl, hv, rfl⟩ := hrel
      have Hg := Lib.hid hg
      have HVL := Lib.hid hv
      clear hg hv
      by_cases hlt : k < 4
      · have hc := HC.out (o + k) (by omega)
        obtain ⟨hb1, hb2⟩ := HB.out (o + k)
        obtain ⟨x, hx⟩ : ∃ x : Nat, l.getD (o + k) 0 = (x : Int) := ⟨(l.getD (o + k) 0).toNat, by omega⟩
        rw [hx] at hc hb1 hb2
        have HN : Hid (ck.getAt l o (k + 1) = 256 * ck.getAt l o k + x) := Lib.hid (by rw [ck.getAt, hx]; rfl)
        obtain ⟨v, hv⟩ : ∃ v, ck.getAt l o k = v := ⟨_, rfl⟩
        have hvb := HVL.out
        have HN2 : Hid (ck.getAt l o (k + 1) < 256 ^ (k + 1)) := Lib.hid (by rw [HN.out, Nat.pow_succ]; omega)
        have hv3 : v < 16777216 := by
          have h1 : 256 ^ k ≤ 256 ^ 3 := Nat.pow_le_pow_right (by decide) (by omega)
          rw [hv] at hvb
          exact Nat.lt_of_lt_of_le hvb h1
        rw [hv] at HN ⊢
        clear hx hvb hv
        go_wp2_with fail
        go_roundg (4 - (k + 1))
        case measure => have := Hg.out; omega
        case rel => exact ⟨k + 1, by omega, rfl, by go_num, by rw [HN.out]; push_cast; rfl, HN2.out, rfl⟩
      · obtain rfl : k = 4 := by omega
        go_wp2_with fail
        go_ret2
        exact ⟨rfl, rfl⟩
  · have HV : Hid ((if o + 4 ≤ n then ck.be32 (l.drop o) else 0) = 0) := Lib.hid (if_neg h4)
    have HE : Hid ((if o + 4 ≤ n then (0 : Int) else 5) = 5) := Lib.hid (if_neg h4)
    rw [HV.out, HE.out]
    have i1 : (n : Int) - (o : Int) < 4 := by omega
    clear h4 HV HE
    go_enter Tryd.func31, Tryd.ntmps31
    go_wp2_with fail
    go_ret2
    exact ⟨rfl, rfl⟩
end Go.Proofs.YtfaemhmefijaoaaDoor
