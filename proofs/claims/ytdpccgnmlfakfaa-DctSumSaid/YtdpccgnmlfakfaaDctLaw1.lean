/- The walk of DctTurns. -/
import Derived.Test.YtdpccgnmlfakfaaDctLaw0
namespace Go.Proofs.Ytdpccgnmlfakfaa
open Go.RowKit

/-- an answer, error or not, as a slice that can be read -/
theorem AnsPost.view {n : Nat} {l : List Int} {er : Int} {w w' : World} {e : Ending} (h : AnsPost n l er w e w') : ∃ a m cap lv, e = .returned (.tuple #[.slice a m cap, .int .i64 er]) ∧ lv.length = m ∧ m ≤ cap ∧ m ≤ maxLen ∧ Rd .i64 w' a lv ∧ lv = (if er = 0 then l else []) ∧ Below w.heap.size w w' := by
  obtain ⟨h, hb⟩ := h
  rcases h with ⟨h, rfl⟩ | ⟨rfl, v, rfl, h2⟩
  · exact ⟨none, 0, 0, [], rfl, rfl, Nat.le_refl _, Nat.zero_le _, .nil, (if_neg h).symm, hb⟩
  · obtain ⟨g, cap, rfl, _, h3, h4, h5, h6, _⟩ := h2.open
    exact ⟨_, n, cap, l, rfl, h3, h4, Nat.le_trans h4 h5, h6, (if_pos rfl).symm, hb⟩

theorem reach_int {n c : Nat} (hn : n ≤ c) (h : c * Try.prog.bytesOf 3 ≤ reachBytes) : n * 8 ≤ 140737488355328 := by
  have e : Try.prog.bytesOf 3 = 8 := by kernel_rfl
  rw [e] at h
  have e2 : reachBytes ≤ 140737488355328 := by decide
  have := Nat.le_trans h e2
  omega

set_option maxRecDepth 100000 in
set_option maxHeartbeats 3200000 in
theorem dctTurns_any (a : Option Addr) (n cap : Nat) (l : List Int) (w : World) (h : Sl .i64 w a n cap l) (hr : cap * Try.prog.bytesOf 3 ≤ reachBytes) :
    Calls Try.prog 3 #[.slice a n cap] w fun e w' => e = .returned (.bool true) ∧ Below w.heap.size w w' := by
  have hn8 := reach_int h.fits hr
  have H := Lib.hid h
  have HN : Hid (n * 8 ≤ 140737488355328) := Lib.hid hn8
  have HM : Hid (n ≤ maxLen) := Lib.hid (Nat.le_trans h.fits h.most)
  clear h hr hn8
  go_enter Try.func3, Try.ntmps3
  go_wp2_with fail
  go_must (refine (wakes_any _).mono ?_)
  rintro e w1 ⟨rfl, hb1⟩
  have B1 := Lib.hid hb1
  have H1 := Lib.hid (H.out.below hb1)
  clear hb1
  go_wp2_with fail
  go_must (refine (ownI_any a n cap l w1 H1.out HN.out).mono ?_)
  rintro e w2 ⟨v, rfl, hv, hb2⟩
  obtain ⟨g2, c2, rfl, _, hl2, hc2, hm2, hr2, _⟩ := hv.open
  have B2 := Lib.hid (B1.out.trans (hb2.mono B1.out.size))
  have H2 := Lib.hid (H1.out.below hb2)
  have R2 := Lib.hid hr2
  clear hv hr2 hb2 B1 H1
  go_wp2_with fail
  go_must (refine (forward_any _ n c2 l w2 hl2 HM.out R2.out).mono ?_)
  rintro e w3 hp
  obtain ⟨a3, n3, c3, l3, rfl, hl3, hc3, hm3, hr3, he3, hb3⟩ := hp.view
  have B3 := Lib.hid (B2.out.trans (hb3.mono B2.out.size))
  have H3 := Lib.hid (H2.out.below hb3)
  have R3 := Lib.hid hr3
  have E3 := Lib.hid he3
  have L3 := Lib.hid hl3
  have M3 := Lib.hid hm3
  clear hp hr3 he3 hl3 hm3 hb3 R2 B2 H2
  go_wp2_with fail
  go_must (refine (refForward_any a n cap l w3 H3.out.len HM.out H3.out.rd).mono ?_)
  rintro e w4 hp
  obtain ⟨a4, n4, c4, l4, rfl, hl4, hc4, hm4, hr4, he4, hb4⟩ := hp.view
  have B4 := Lib.hid (B3.out.trans (hb4.mono B3.out.size))
  have H4 := Lib.hid (H3.out.below hb4)
  have R4 := Lib.hid hr4
  have E4 := Lib.hid he4
  have L4 := Lib.hid hl4
  have M4 := Lib.hid hm4
  have R43 := Lib.hid (R3.out.below hb4)
  clear hp hr4 he4 hl4 hm4 hb4 R3 B3 H3
  go_wp2_with fail
  go_must (refine (ownI_any a n cap l w4 H4.out HN.out).mono ?_)
  rintro e w5 ⟨v, rfl, hv, hb5⟩
  obtain ⟨g5, c5, rfl, _, hl5, hc5, hm5, hr5, _⟩ := hv.open
  have B5 := Lib.hid (B4.out.trans (hb5.mono B4.out.size))
  have H5 := Lib.hid (H4.out.below hb5)
  have R5 := Lib.hid hr5
  have R54 := Lib.hid (R4.out.below hb5)
  have R53 := Lib.hid (R43.out.below hb5)
  clear hv hr5 hb5 B4 H4 R4 R43
  go_wp2_with fail
  go_must (refine (inverse_any _ n c5 l w5 hl5 HM.out R5.out).mono ?_)
  rintro e w6 hp
  obtain ⟨a6, n6, c6, l6, rfl, hl6, hc6, hm6, hr6, he6, hb6⟩ := hp.view
  have B6 := Lib.hid (B5.out.trans (hb6.mono B5.out.size))
  have H6 := Lib.hid (H5.out.below hb6)
  have R6 := Lib.hid hr6
  have E6 := Lib.hid he6
  have L6 := Lib.hid hl6
  have M6 := Lib.hid hm6
  have R64 := Lib.hid (R54.out.below hb6)
  have R63 := Lib.hid (R53.out.below hb6)
  clear hp hr6 he6 hl6 hm6 hb6 R5 B5 H5 R54 R53
  go_wp2_with fail
  go_must (refine (refInverse_any a n cap l w6 H6.out.len HM.out H6.out.rd).mono ?_)
  rintro e w7 hp
  obtain ⟨a7, n7, c7, l7, rfl, hl7, hc7, hm7, hr7, he7, hb7⟩ := hp.view
  have B7 := Lib.hid (B6.out.trans (hb7.mono B6.out.size))
  have R7 := Lib.hid hr7
  have E7 := Lib.hid he7
  have L7 := Lib.hid hl7
  have M7 := Lib.hid hm7
  have R76 := Lib.hid (R6.out.below hb7)
  have R74 := Lib.hid (R64.out.below hb7)
  have R73 := Lib.hid (R63.out.below hb7)
  clear hp hr7 he7 hl7 hm7 hb7 R6 B6 H6 R64 R63
  go_wp2_with fail
  go_must (refine (sameInts_any a3 a4 n3 n4 c3 c4 l3 l4 w7 L3.out L4.out M3.out M4.out R73.out R74.out).mono ?_)
  rw [decide_eq_true (E3.out.trans E4.out.symm)]
  rintro e w8 ⟨rfl, hb8⟩
  have B8 := Lib.hid (B7.out.trans (hb8.mono B7.out.size))
  have R87 := Lib.hid (R7.out.below hb8)
  have R86 := Lib.hid (R76.out.below hb8)
  clear hb8 B7
  go_wp2_with fail
  go_must (refine (sameInts_any a6 a7 n6 n7 c6 c7 l6 l7 w8 L6.out L7.out M6.out M7.out R86.out R87.out).mono ?_)
  rw [decide_eq_true (E6.out.trans E7.out.symm)]
  rintro e w9 ⟨rfl, hb9⟩
  have B9 := Lib.hid (B8.out.trans (hb9.mono B8.out.size))
  clear hb9 B8
  go_wp2_with fail
  go_ret
  exact ⟨rfl, B9.out⟩
end Go.Proofs.Ytdpccgnmlfakfaa
