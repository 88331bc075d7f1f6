/- The document's answers for CRC-32 (the reference's two functions), as Lean reckons them. -/
import Derived.Test.YtfaemhmefijaoaaDoorSumsTable
import Derived.Deep.LoopGhost
namespace Go.Proofs.YtfaemhmefijaoaaDoor
open Go.RowKit

theorem sm.not_u32' {c : Nat} (h : c < 4294967296) : bits BinOp.xor IntKind.u32 (c : Int) 4294967295 = ((sm.crcNot c : Nat) : Int) := u32_xor_nat c 4294967295 h (by omega)

set_option maxRecDepth 100000 in
set_option maxHeartbeats 400000 in
theorem refCrcOn_any (sum : Nat) (a : Option Addr) (n cap : Nat) (l : List Int) (w : World) (hs : sum < 4294967296) (hn : l.length = n) (hm : n ≤ maxLen) (hb : sm.Bytes l) (hr : Rd .u8 w a l) :
    Calls Tryd.prog 49 #[.int .u32 (sum : Nat), .slice a n cap] w fun e w' => e = .returned (.int .u32 (sm.crcOn sum l : Nat)) ∧ w = w' := by
  unfold maxLen at hm
  have Hr := Lib.hid hr
  have Hn := Lib.hid hn
  clear hr hn
  go_enter Tryd.func49, Tryd.ntmps49
  go_wp2
  go_loop [5, 6] (fun c i => ∃ k : Nat, k ≤ n ∧ i = .int .i64 k ∧ c = .int .u32 (sm.crcRaw (sm.crcNot sum) (l.take k) : Nat)) (fun _ i => n - (intOf i).toNat)
  case atStart => exact ⟨0, by omega, rfl, by rw [sm.not_u32' hs]; rfl⟩
  case round =>
    obtain ⟨k, hk, rfl, rfl⟩ := hrel
    by_cases hlt : k < n
    · obtain ⟨b, off, rfl⟩ := Hr.out.at (by rw [Hn.out]; omega)
      have hcl := sm.crcRaw_lt (l := l.take k) (sm.crcNot_lt hs) (hb.take k)
      have hx := hb (l.getD k 0) (sm.getD_mem (by rw [Hn.out]; exact hlt))
      have HS : Hid (sm.crcRaw (sm.crcNot sum) (l.take (k + 1)) = sm.crcByte (sm.crcRaw (sm.crcNot sum) (l.take k)) (l.getD k 0).toNat) := Lib.hid (by rw [sm.take_snoc (by rw [Hn.out]; exact hlt), sm.crcRaw_snoc])
      have hc1 := Hr.out.cell k (by rw [Hn.out]; exact hlt)
      generalize sm.crcRaw (sm.crcNot sum) (l.take k) = c at *
      obtain ⟨x, hx0⟩ : ∃ x : Nat, l.getD k 0 = (x : Int) := ⟨(l.getD k 0).toNat, by omega⟩
      rw [hx0] at hc1 hx HS
      clear hx0
      have hx2 : x < 256 := by omega
      have hxo : bits BinOp.xor IntKind.u32 (c : Int) (x : Int) = ((c ^^^ x : Nat) : Int) := u32_xor_nat c x hcl (by omega)
      have hcx := sm.xor_lt32 hcl (show x < 4294967296 by omega)
      have HS0 := HS
      clear HS
      have HX : Hid (sm.crcSteps 8 (c ^^^ x) = sm.crcByte c x) := Lib.hid rfl
      have Hk : Hid (k < n) := Lib.hid hlt
      generalize hz : c ^^^ x = z at *
      clear hz
      go_wp2
      go_loop [5, 7] (fun c i => ∃ j : Nat, j ≤ 8 ∧ i = .int .i64 j ∧ c = .int .u32 (sm.crcSteps j z : Nat)) (fun _ i => 8 - (intOf i).toNat)
      case atStart => exact ⟨0, by omega, rfl, rfl⟩
      case round =>
        obtain ⟨j, hj, rfl, rfl⟩ := hrel
        have hc := sm.crcSteps_lt (c := z) j hcx
        have HS : Hid (sm.crcSteps (j + 1) z = sm.crcStep (sm.crcSteps j z)) := Lib.hid rfl
        generalize hcj : sm.crcSteps j z = d at *
        have HC := Lib.hid hcj
        clear hcj
        by_cases hj8 : j < 8
        · by_cases hodd : d % 2 = 1
          · have hbb : ((d : Int) % 2 == 1) = true := by simp; omega
            go_wp2
            go_round
            case rel => exact ⟨j + 1, by omega, by go_num, by rw [HS.out, sm.step_odd hc hodd]⟩
            case measure => simp [intOf]; omega
          · have hbb : ((d : Int) % 2 == 1) = false := by simp; omega
            go_wp2
            go_round
            case rel => exact ⟨j + 1, by omega, by go_num, by rw [HS.out, sm.step_even hodd]⟩
            case measure => simp [intOf]; omega
        · obtain rfl : j = 8 := by omega
          go_wp2
          go_round
          case rel => exact ⟨k + 1, by omega, by go_num, by rw [HS0.out, Int.toNat_natCast, ← HX.out, HC.out]⟩
          case measure => simp [intOf]; omega
    · obtain rfl : k = n := by omega
      have hcl := sm.crcRaw_lt (sm.crcNot_lt hs) (l := l) hb
      have HF : Hid (sm.crcRaw (sm.crcNot sum) (l.take k) = sm.crcRaw (sm.crcNot sum) l) := Lib.hid (by rw [List.take_of_length_le (by rw [Hn.out]; omega)])
      go_wp2
      go_ret
      exact ⟨by rw [HF.out, sm.not_u32' hcl]; rfl, rfl⟩

theorem refCrc_any (a : Option Addr) (n cap : Nat) (l : List Int) (w : World) (hn : l.length = n) (hm : n ≤ maxLen) (hb : sm.Bytes l) (hr : Rd .u8 w a l) :
    Calls Tryd.prog 33 #[.slice a n cap] w fun e w' => e = .returned (.int .u32 (sm.crcOn 0 l : Nat)) ∧ w = w' := by
  have H := Lib.hid (refCrcOn_any 0 a n cap l w (by omega) hn hm hb hr)
  clear hn hr
  go_enter Tryd.func33, Tryd.ntmps33
  go_wp2_with (go_at_call 49; go_must (refine H.out.mono ?_; rintro e w1 ⟨rfl, rfl⟩))
  go_ret
  exact ⟨rfl, rfl⟩

end Go.Proofs.YtfaemhmefijaoaaDoor
