/- The walks of SumsCrc and SumsAdler: both answer true for every list of bytes and every sum. -/
import Derived.Test.YtplgeffihjhobaaSumsWakes
import Derived.Test.YtplgeffihjhobaaSumsRef
import Derived.Test.YtplgeffihjhobaaOwn
namespace Go.Proofs.Ytplgeffihjhobaa
open Go.RowKit

theorem bytes_of {l : List Int} (h : ∀ x ∈ l, (Lit.int .u8 x).wf = true) : sm.Bytes l := by
  intro x hx
  have := h x hx
  simp [Lit.wf, IntKind.min, IntKind.max, IntKind.bits, IntKind.signed] at this
  omega

set_option maxRecDepth 100000 in
set_option maxHeartbeats 400000 in
theorem sumsCrc_walk (a : Option Addr) (n cap : Nat) (l : List Int) (s : Nat) (w : World) (h : Sl .u8 w a n cap l) (hr : cap ≤ 140737488355328) (hs : s < 4294967296) :
    Calls Try.prog 3 #[.slice a n cap, .int .u32 (s : Nat)] w fun e w' => e = .returned (.bool true) ∧ Below w.heap.size w w' := by
  have hb := bytes_of h.wf
  have H := Lib.hid h
  have hn := h.fits
  clear h
  go_enter Try.func3, Try.ntmps3
  go_wp2_with fail
  go_must (refine (wakes_any _).mono ?_)
  rintro e w1 ⟨rfl, hb1⟩
  have H1 := Lib.hid (H.out.below hb1)
  have B1 := Lib.hid hb1
  clear hb1
  go_wp2_with fail
  go_must (refine (own_any a n cap l w1 H1.out (by omega)).mono ?_)
  rintro e w2 ⟨v, rfl, ⟨g, c2, rfl, hg, hown⟩, hb2⟩
  have S2 := Lib.hid (Fresh.sl hown (H1.out.wf))
  have H2 := Lib.hid (H1.out.below hb2)
  have B2 := Lib.hid (B1.out.trans (hb2.mono B1.out.size))
  clear hown hb2 hg
  go_wp2_with fail
  go_must (refine (crc_any _ n c2 l w2 S2.out.len (Nat.le_trans S2.out.fits S2.out.most) hb S2.out.rd).mono ?_)
  rintro e w3 ⟨rfl, hb3⟩
  have H3 := Lib.hid (H2.out.below hb3)
  have B3 := Lib.hid (B2.out.trans (hb3.mono B2.out.size))
  clear hb3
  go_wp2_with fail
  go_must (refine (refCrc_any a n cap l w3 H3.out.len (Nat.le_trans H3.out.fits H3.out.most) hb H3.out.rd).mono ?_)
  rintro e w4 ⟨rfl, rfl⟩
  go_wp2_with fail
  go_must (refine (own_any a n cap l w3 H3.out (by omega)).mono ?_)
  rintro e w5 ⟨v, rfl, ⟨g5, c5, rfl, hg, hown⟩, hb5⟩
  have S5 := Lib.hid (Fresh.sl hown (H1.out.wf))
  have H5 := Lib.hid (H3.out.below hb5)
  have B5 := Lib.hid (B3.out.trans (hb5.mono B3.out.size))
  clear hown hb5 hg
  go_wp2_with fail
  go_must (refine (crcOn_any s _ n c5 l w5 hs S5.out.len (Nat.le_trans S5.out.fits S5.out.most) hb S5.out.rd).mono ?_)
  rintro e w6 ⟨rfl, hb6⟩
  have H6 := Lib.hid (H5.out.below hb6)
  have B6 := Lib.hid (B5.out.trans (hb6.mono B5.out.size))
  clear hb6
  go_wp2_with fail
  go_must (refine (refCrcOn_any s a n cap l w6 hs H6.out.len (Nat.le_trans H6.out.fits H6.out.most) hb H6.out.rd).mono ?_)
  rintro e w7 ⟨rfl, rfl⟩
  go_wp2_with fail
  go_ret
  exact ⟨rfl, B6.out⟩

set_option maxRecDepth 100000 in
set_option maxHeartbeats 400000 in
theorem sumsAdler_walk (a : Option Addr) (n cap : Nat) (l : List Int) (s : Nat) (w : World) (h : Sl .u8 w a n cap l) (hr : cap ≤ 140737488355328) (hs : s < 4294967296) :
    Calls Try.prog 4 #[.slice a n cap, .int .u32 (s : Nat)] w fun e w' => e = .returned (.bool true) ∧ Below w.heap.size w w' := by
  have hb := bytes_of h.wf
  have H := Lib.hid h
  have hn := h.fits
  clear h
  go_enter Try.func4, Try.ntmps4
  go_wp2_with fail
  go_must (refine (wakes_any _).mono ?_)
  rintro e w1 ⟨rfl, hb1⟩
  have H1 := Lib.hid (H.out.below hb1)
  have B1 := Lib.hid hb1
  clear hb1
  go_wp2_with fail
  go_must (refine (own_any a n cap l w1 H1.out (by omega)).mono ?_)
  rintro e w2 ⟨v, rfl, ⟨g, c2, rfl, hg, hown⟩, hb2⟩
  have S2 := Lib.hid (Fresh.sl hown (H1.out.wf))
  have H2 := Lib.hid (H1.out.below hb2)
  have B2 := Lib.hid (B1.out.trans (hb2.mono B1.out.size))
  clear hown hb2 hg
  go_wp2_with fail
  go_must (refine (adler_any _ n c2 l w2 S2.out.len S2.out.fits S2.out.most hb S2.out.rd).mono ?_)
  rintro e w3 ⟨rfl, rfl⟩
  go_wp2_with fail
  go_must (refine (refAdler_any a n cap l w2 H2.out.len (Nat.le_trans H2.out.fits H2.out.most) hb H2.out.rd).mono ?_)
  rintro e w4 ⟨rfl, rfl⟩
  go_wp2_with fail
  go_must (refine (own_any a n cap l w2 H2.out (by omega)).mono ?_)
  rintro e w5 ⟨v, rfl, ⟨g5, c5, rfl, hg, hown⟩, hb5⟩
  have S5 := Lib.hid (Fresh.sl hown (H1.out.wf))
  have H5 := Lib.hid (H2.out.below hb5)
  have B5 := Lib.hid (B2.out.trans (hb5.mono B2.out.size))
  clear hown hb5 hg
  go_wp2_with fail
  go_must (refine (adlerOn_any s _ n c5 l w5 hs S5.out.len S5.out.fits S5.out.most hb S5.out.rd).mono ?_)
  rintro e w6 ⟨rfl, rfl⟩
  go_wp2_with fail
  go_must (refine (refAdlerOn_any s a n cap l w5 hs H5.out.len (Nat.le_trans H5.out.fits H5.out.most) hb H5.out.rd).mono ?_)
  rintro e w7 ⟨rfl, rfl⟩
  go_wp2_with fail
  go_ret
  exact ⟨rfl, B5.out⟩

theorem bytesOf_u8 : Try.prog.bytesOf 5 = 1 := by kernel_rfl
theorem reach_le {c : Nat} (h : c * Try.prog.bytesOf 5 ≤ reachBytes) : c ≤ 140737488351232 := by
  rw [bytesOf_u8, Nat.mul_one] at h
  exact h
theorem u32_of {x : Int} (h : (Lit.int .u32 x).wf = true) : ∃ s : Nat, x = (s : Int) ∧ s < 4294967296 := by
  simp [Lit.wf, IntKind.min, IntKind.max, IntKind.bits, IntKind.signed] at h
  exact ⟨x.toNat, by omega, by omega⟩
theorem sumsCrc_said (a : Option Addr) (n cap : Nat) (l : List Int) (x : Int) (w : World) (h : Sl .u8 w a n cap l) (hr : cap * Try.prog.bytesOf 5 ≤ reachBytes) (hx : (Lit.int .u32 x).wf = true) :
    Calls Try.prog 3 #[.slice a n cap, .int .u32 x] w fun e w' => e = .returned (.bool true) ∧ Below w.heap.size w w' := by
  obtain ⟨s, rfl, hs⟩ := u32_of hx
  have := reach_le hr
  exact sumsCrc_walk a n cap l s w h (by omega) hs
theorem sumsAdler_said (a : Option Addr) (n cap : Nat) (l : List Int) (x : Int) (w : World) (h : Sl .u8 w a n cap l) (hr : cap * Try.prog.bytesOf 5 ≤ reachBytes) (hx : (Lit.int .u32 x).wf = true) :
    Calls Try.prog 4 #[.slice a n cap, .int .u32 x] w fun e w' => e = .returned (.bool true) ∧ Below w.heap.size w w' := by
  obtain ⟨s, rfl, hs⟩ := u32_of hx
  have := reach_le hr
  exact sumsAdler_walk a n cap l s w h (by omega) hs
end Go.Proofs.Ytplgeffihjhobaa
