/- ChunkRows: the law's walk. -/
import Derived.Test.YtfaemhmefijaoaaDoorCkLaw0
import Derived.SizedLaws
namespace Go.Proofs.YtfaemhmefijaoaaDoor
open Go.RowKit Go.Sort

theorem bytes8 : Tryd.prog.bytesOf 5 = 1 := by kernel_rfl
set_option maxRecDepth 100000 in
set_option maxHeartbeats 1600000 in
theorem chunkRows_walk (a : Option Addr) (n cap : Nat) (l : List Int) (x y : Int) (w : World) (h : Sl .u8 w a n cap l) (hz : cap * Tryd.prog.bytesOf 5 ≤ reachBytes) (_ : (Lit.int .i64 x).wf = true) (_ : (Lit.int .i64 y).wf = true) :
    Calls Tryd.prog 7 #[.slice a n cap, .int .i64 x, .int .i64 y] w (Same8Post true w) := by
  have hn : n ≤ 140737488355328 := by
    rw [bytes8, Nat.mul_one] at hz
    have := h.fits
    unfold reachBytes at hz
    omega
  have HS := Lib.hid h
  clear h hz
  go_enter Tryd.func7, Tryd.ntmps7
  go_wp2_with fail
  refine (wakes_any _).mono ?_
  rintro e w1 ⟨rfl, hb1⟩
  have HB1 := Lib.hid hb1
  have HS1 := Lib.hid (HS.out.below hb1)
  clear hb1
  go_wp2_with fail
  refine (own8_any _ _ _ _ _ HS1.out hn).mono ?_
  rintro e w2 ⟨g2, c2, rfl, hs2, _, hb⟩
  have HS2 := Lib.hid hs2
  have HSa := Lib.hid (HS1.out.below hb)
  have HB2 := Lib.hid (HB1.out.trans (hb.mono HB1.out.size))
  clear hs2 hb
  go_wp2_with fail
  refine (unfilter_any (some ⟨g2, 0, none⟩) g2 0 n c2 x y l _ HS2.out (.inr rfl) hn).mono ?_
  obtain ⟨E, hE⟩ : ∃ E, ck.unfErr x y l = E := ⟨_, rfl⟩
  obtain ⟨O, hO⟩ : ∃ E, ck.unfOut x y l = E := ⟨_, rfl⟩
  have HOB : Hid (∀ v ∈ O, 0 ≤ v ∧ v < 256) := Lib.hid (by
    rw [← hO]
    unfold ck.unfOut
    split
    · exact ck.unfTo_byte _ _ _ _
    · exact fun _ h => nomatch h)
  have HE := Lib.hid hE
  have HO := Lib.hid hO
  rw [hE, hO]
  clear hE hO
  rintro e w3 ⟨v, rfl, hr, hb⟩
  obtain ⟨a3, c3, rfl, hs3, _⟩ := own_sl hr HOB.out
  have HS3 := Lib.hid hs3
  have HSb := Lib.hid (HSa.out.below hb)
  have HB3 := Lib.hid (HB2.out.trans (hb.mono HB2.out.size))
  clear hr hs3 hb
  go_wp2_with fail
  refine (refunf_any _ _ _ _ _ _ _ HSb.out hn).mono ?_
  rw [HE.out, HO.out]
  rintro e w4 ⟨v, rfl, hr, hb⟩
  obtain ⟨a4, c4, rfl, hs4, _⟩ := own_sl hr HOB.out
  have HS4 := Lib.hid hs4
  have HSc := Lib.hid (HS3.out.below hb)
  have HB4 := Lib.hid (HB3.out.trans (hb.mono HB3.out.size))
  clear hr hs4 hb
  go_wp2_with fail
  refine (same8_any _ _ _ _ _ _ _ _ _ HSc.out HS4.out).mono ?_
  rw [decide_eq_true rfl]
  rintro e w5 ⟨rfl, hb⟩
  have HB5 := Lib.hid (HB4.out.trans (hb.mono HB4.out.size))
  clear hb
  have hee : (E == E) = true := by simp
  go_wp2_with fail
  go_ret
  exact ⟨rfl, HB5.out⟩
end Go.Proofs.YtfaemhmefijaoaaDoor
