/- Adler-32, as the program reckons it (3000 bytes between two rests), is the document's. -/
import Derived.Test.YtplgeffihjhobaaSumsTable
import Derived.Deep.DeepCutAuto
import Derived.Deep.LoopGhost
namespace Go.Proofs.Ytplgeffihjhobaa
open Go.RowKit

theorem sm.and_16 {c : Nat} (h : c < 4294967296) : bits BinOp.and IntKind.u32 (c : Int) 65535 = ((c % 65536 : Nat) : Int) := by
  have := u32_and_nat c 65535 h (by omega)
  rw [Nat.and_two_pow_sub_one_eq_mod c 16] at this
  exact this
theorem sm.or_16 {s t : Nat} (h : s < 65536) (ht : t < 65536) : bits BinOp.or IntKind.u32 (65536 * (t : Int)) (s : Int) = ((65536 * t + s : Nat) : Int) := by
  have := u32_or_nat (65536 * t) s (by omega) (by omega)
  rw [← Nat.two_pow_add_eq_or_of_lt (i := 16) h t] at this
  exact this

set_option maxRecDepth 100000 in
set_option maxHeartbeats 800000 in
theorem adlerOn_any (sum : Nat) (a : Option Addr) (n cap : Nat) (l : List Int) (w : World) (hs : sum < 4294967296) (hn : l.length = n) (hcap : n ≤ cap) (hm : cap ≤ maxLen) (hb : sm.Bytes l) (hr : Rd .u8 w a l) :
    Calls Try.prog 16 #[.int .u32 (sum : Nat), .slice a n cap] w fun e w' => e = .returned (.int .u32 (sm.adlOn sum l : Nat)) ∧ w = w' := by
  unfold maxLen at hm
  have Hr := Lib.hid hr
  have Hn := Lib.hid hn
  have hlo := sm.and_16 hs
  have hst := sm.adlStart_lt sum
  clear hr hn
  go_enter Try.func16, Try.ntmps16
  go_wp2
  go_loopg [1, 5, 6] n (fun gk v s t wr => wr = w ∧ ∃ (p c1 : Nat) (a1 : Option Addr), gk = n - p ∧ p ≤ n ∧ n - p ≤ c1 ∧ c1 ≤ cap ∧ v = .slice a1 (n - p) c1 ∧ Rd .u8 w a1 (l.drop p) ∧ s = .int .u32 ((sm.adlRaw (sm.adlStart sum) (l.take p)).1 : Nat) ∧ t = .int .u32 ((sm.adlRaw (sm.adlStart sum) (l.take p)).2 : Nat))
  case atStart => exact ⟨rfl, 0, cap, a, rfl, by omega, by omega, by omega, rfl, Hr.out, rfl, rfl⟩
  case round =>
    obtain ⟨rfl, p, c1, a1, hg, hp, hc1, hc2, rfl, hr1, rfl, rfl⟩ := hrel
    have Hg := Lib.hid hg
    have Hr1 := Lib.hid hr1
    clear hg hr1
    by_cases hpn : p < n
    · have hbd := sm.adlRaw_lt (l := l.take p) hst
      have HA : Hid (∀ q, sm.adlRaw (sm.adlStart sum) (l.take (p + q)) = sm.adlMod (sm.adlWide (sm.adlRaw (sm.adlStart sum) (l.take p)) ((l.drop p).take q))) := Lib.hid (by
        intro q
        rw [sm.adlWide_mod]
        have e : sm.adlMod (sm.adlRaw (sm.adlStart sum) (l.take p)) = sm.adlRaw (sm.adlStart sum) (l.take p) := by
          unfold sm.adlMod
          rw [Nat.mod_eq_of_lt hbd.1, Nat.mod_eq_of_lt hbd.2]
        rw [e, ← sm.adlRaw_append, List.take_add])
      generalize sm.adlRaw (sm.adlStart sum) (l.take p) = st at *
      have Hlen : Hid ((l.drop p).length = n - p) := Lib.hid (by rw [List.length_drop, Hn.out])
      have Hb : Hid (sm.Bytes (l.drop p)) := Lib.hid (hb.drop p)
      generalize hll : l.drop p = ll at *
      have HLL := Lib.hid hll
      clear hll
      go_upto_region 3 with fail
      go_cut [7] (fun s7 wx => wx = wr ∧ ∃ q : Nat, s7 = .int .i64 q ∧ 0 < q ∧ q ≤ n - p ∧ q ≤ 3000)
      case first =>
        go_wp2
        all_goals go_meet
        all_goals first
          | exact ⟨rfl, n - p, rfl, by omega, by omega, by omega⟩
          | exact ⟨rfl, 3000, rfl, by omega, by omega, by omega⟩
      case rest =>
        obtain ⟨rfl, q, rfl, hq0, hq1, hq2⟩ := hcut
        go_wp2
        go_loopg [5, 6, 26] q (fun gk s t i wx => wx = wc ∧ ∃ j : Nat, j ≤ q ∧ gk = q - j ∧ i = .int .i64 j ∧ s = .int .u32 ((sm.adlWide st (ll.take j)).1 : Nat) ∧ t = .int .u32 ((sm.adlWide st (ll.take j)).2 : Nat))
        case atStart => exact ⟨rfl, 0, by omega, rfl, rfl, rfl, rfl⟩
        case round =>
          obtain ⟨rfl, j, hj, hgk, rfl, rfl, rfl⟩ := hrel
          have Hgk := Lib.hid hgk
          clear hgk
          have hle := sm.adlWide_le st (ll.take j) (Hb.out.take j)
          have hlj : (ll.take j).length = j := by rw [List.length_take, Hlen.out]; omega
          rw [hlj] at hle
          clear hlj
          have hj3 : (st.1 + 255 * j) * j ≤ 830521 * 3000 := Nat.mul_le_mul (by omega) (by omega)
          by_cases hjq : j < q
          · obtain ⟨b, off, rfl⟩ := Hr1.out.at (by rw [Hlen.out]; omega)
            have hjl : j < ll.length := by rw [Hlen.out]; omega
            have hx := Hb.out (ll.getD j 0) (sm.getD_mem hjl)
            have HS : Hid (sm.adlWide st (ll.take (j + 1)) = sm.adlW (sm.adlWide st (ll.take j)) (ll.getD j 0)) := Lib.hid (by rw [sm.take_snoc hjl, sm.adlWide_snoc])
            have hc1 := Hr1.out.cell j hjl
            clear hjl
            generalize sm.adlWide st (ll.take j) = sw at *
            obtain ⟨x, hx0⟩ : ∃ x : Nat, ll.getD j 0 = (x : Int) := ⟨(ll.getD j 0).toNat, by omega⟩
            rw [hx0] at hc1 hx HS
            clear hx0
            have hs1 : sw.1 + x ≤ 830521 := by omega
            have hs2 : sw.2 + (sw.1 + x) < 4294967296 := by omega
            clear hle hj3
            go_wp2
            go_roundg (q - (j + 1))
            case measure => have := Hgk.out; omega
            case rel => exact ⟨rfl, j + 1, by omega, rfl, by go_num, by rw [HS.out]; unfold sm.adlW; rw [Int.toNat_natCast]; go_num, by rw [HS.out]; unfold sm.adlW; rw [Int.toNat_natCast]; go_num⟩
          · obtain rfl : j = q := by omega
            have HT := Lib.hid (HA.out j)
            have HL : Hid ((l.drop p).drop j = l.drop (p + j)) := Lib.hid (by rw [List.drop_drop])
            have hmd : sm.adlMod (sm.adlWide st (ll.take j)) = ((sm.adlWide st (ll.take j)).1 % 65521, (sm.adlWide st (ll.take j)).2 % 65521) := rfl
            have HM := Lib.hid hmd
            clear hmd
            obtain ⟨b, off, rfl⟩ := Hr1.out.at (by rw [Hlen.out]; omega)
            clear hle hj3
            by_cases hcj : c1 = j
            · obtain rfl : n - p = j := by omega
              have hcj' : (c1 : Int) = ((n - p : Nat) : Int) := by omega
              go_wp2
              go_roundg (n - (p + (n - p)))
              case measure => have := Hg.out; omega
              case rel => exact ⟨rfl, p + (n - p), 0, _, rfl, by omega, by omega, by omega, by rw [show n - (p + (n - p)) = 0 from by omega], .inl (List.drop_of_length_le (by rw [Hn.out]; omega)), by rw [HT.out, HM.out]; go_num, by rw [HT.out, HM.out]; go_num⟩
            · have hd1 := Hr1.out.drop j
              have HD := Lib.hid hd1
              clear hd1
              go_wp2
              go_roundg (n - (p + j))
              case measure => have := Hg.out; omega
              case rel => exact ⟨rfl, p + j, c1 - j, _, rfl, by omega, by omega, by omega, by rw [Nat.sub_sub], by rw [← HL.out, HLL.out]; exact HD.out, by rw [HT.out, HM.out]; go_num, by rw [HT.out, HM.out]; go_num⟩
    · obtain rfl : p = n := by omega
      have hbd := sm.adlRaw_lt (l := l) hst
      have HF : Hid (sm.adlRaw (sm.adlStart sum) (l.take p) = sm.adlRaw (sm.adlStart sum) l) := Lib.hid (by rw [List.take_of_length_le (by rw [Hn.out]; omega)])
      have HE : Hid (sm.adlOn sum l = 65536 * (sm.adlRaw (sm.adlStart sum) l).2 + (sm.adlRaw (sm.adlStart sum) l).1) := Lib.hid rfl
      have HO := Lib.hid (sm.or_16 (s := (sm.adlRaw (sm.adlStart sum) l).1) (t := (sm.adlRaw (sm.adlStart sum) l).2) (by omega) (by omega))
      rw [HF.out]
      generalize sm.adlRaw (sm.adlStart sum) l = st at *
      go_wp2
      go_ret
      refine ⟨?_, rfl⟩
      show Ending.returned (Value.int .u32 (bits BinOp.or IntKind.u32 ((st.2 : Int) * 65536) (st.1 : Int))) = _
      rw [Int.mul_comm, HO.out, HE.out]

theorem adler_any (a : Option Addr) (n cap : Nat) (l : List Int) (w : World) (hn : l.length = n) (hcap : n ≤ cap) (hm : cap ≤ maxLen) (hb : sm.Bytes l) (hr : Rd .u8 w a l) :
    Calls Try.prog 14 #[.slice a n cap] w fun e w' => e = .returned (.int .u32 (sm.adlOn 1 l : Nat)) ∧ w = w' := by
  have H := Lib.hid (adlerOn_any 1 a n cap l w (by omega) hn hcap hm hb hr)
  clear hn hr
  go_enter Try.func14, Try.ntmps14
  go_wp2_with (go_at_call 16; go_must (refine H.out.mono ?_; rintro e w1 ⟨rfl, rfl⟩))
  go_ret
  exact ⟨rfl, rfl⟩
end Go.Proofs.Ytplgeffihjhobaa
