/- The walk of SumsOn: a sum of two pieces is the sum of the first, gone on with the second. -/
import Derived.Test.YtplgeffihjhobaaSumsLawCrc
import Derived.Deep.DeepCutAuto
namespace Go.Proofs.Ytplgeffihjhobaa
open Go.RowKit

set_option maxRecDepth 100000 in
set_option maxHeartbeats 800000 in
theorem sumsOn_walk (a : Option Addr) (n cap : Nat) (l : List Int) (a' : Option Addr) (n' cap' : Nat) (l' : List Int) (w : World) (h : Sl .u8 w a n cap l) (hr : cap ≤ 1048576) (h' : Sl .u8 w a' n' cap' l') (hr' : cap' ≤ 1048576) :
    Calls Try.prog 5 #[.slice a n cap, .slice a' n' cap'] w fun e w' => e = .returned (.bool true) ∧ Below w.heap.size w w' := by
  obtain ⟨i0, hi, hz0, hz1, hz2⟩ := info_parts infoByte
  have hb := bytes_of h.wf
  have hb' := bytes_of h'.wf
  have hbb := hb.append hb'
  have H := Lib.hid h
  have H' := Lib.hid h'
  have hn := h.fits
  have hn' := h'.fits
  have hwf : ∀ x ∈ l ++ l', (Lit.int .u8 x).wf = true := fun x hx => (List.mem_append.1 hx).elim (h.wf x) (h'.wf x)
  have Hwf := Lib.hid hwf
  clear h h' hwf
  go_enter Try.func5, Try.ntmps5
  go_wp2_with fail
  go_must (refine (wakes_any _).mono ?_)
  rintro e w1 ⟨rfl, hb1⟩
  have H1 := Lib.hid (H.out.below hb1)
  have H1' := Lib.hid (H'.out.below hb1)
  have B1 := Lib.hid hb1
  clear hb1
  go_upto_region 3 with fail
  go_cut [5] (fun s5 wx => ∃ g3 c3, s5 = .slice (some ⟨g3, 0, none⟩) (n + n') c3 ∧ Sl .u8 wx (some ⟨g3, 0, none⟩) (n + n') c3 (l ++ l') ∧ Sl .u8 wx a n cap l ∧ Sl .u8 wx a' n' cap' l' ∧ Below w.heap.size w wx)
  case first =>
    go_wp2_with fail
    go_must (refine (own_any a n cap l w1 H1.out (by omega)).mono ?_)
    rintro e w2 ⟨v, rfl, ⟨g, c2, rfl, hg, hown⟩, hb2⟩
    have O2 := Lib.hid hown
    have H2' := Lib.hid (H1'.out.below hb2)
    have B2 := Lib.hid (B1.out.trans (hb2.mono B1.out.size))
    have hs2 := Lib.hid hb2.size
    have Hg := Lib.hid hg
    clear hown hb2 hg
    have HJ : ∀ v' w3, w3.ownsRow w1.heap.size 5 1 v' (n + n') ((l ++ l').map (Value.int .u8)) → w2.grownBy w3 (some g) → ¬ v' = .slice none 0 0 →
        ∃ g3 c3, v' = .slice (some ⟨g3, 0, none⟩) (n + n') c3 ∧ Sl .u8 w3 (some ⟨g3, 0, none⟩) (n + n') c3 (l ++ l') ∧ Sl .u8 w3 a n cap l ∧ Sl .u8 w3 a' n' cap' l' ∧ Below w.heap.size w w3 := by
      intro v' w3 ho hgr hnn
      have hbel : Below w.heap.size w w3 := B2.out.grown hgr B2.out.size (by intro k hk; cases hk; exact Nat.le_trans B1.out.size Hg.out)
      obtain ⟨g3, c3, rfl, hg3, ho3⟩ := fresh_of ho hnn
      exact ⟨g3, c3, rfl, Fresh.sl ho3 Hwf.out, H.out.below hbel, H'.out.below hbel, hbel⟩
    have HJ := Lib.hid HJ
    cases a' with
    | none =>
      obtain rfl : cap' = 0 := H'.out.bare rfl
      obtain rfl : n' = 0 := by have := H'.out.fits; omega
      obtain rfl : l' = [] := List.length_eq_zero_iff.1 H'.out.len
      go_wp2_with (at_builtin; go_must (refine wpList_append_own_none rfl _ _ 22 rfl w1.heap.size 5 i0 1 Try.underlying22 hi _ n _ rfl O2.out rfl ?_))
      go_meet
      exact HJ.out _ _ (by simpa using O2.out) (World.grownBy.refl _ _) (by simp)
    | some ad =>
      have HN := Lib.hid H2'.out.at_news
      have Hl := Lib.hid H2'.out.len
      go_wp2_with (at_builtin; go_must (refine wpList_append_own _ rfl _ _ 22 rfl w1.heap.size 5 i0 (.int .u8 0) 1 1 Try.underlying22 hi hz0 hz1 hz2 rfl (by decide) (.slice (some ⟨g, 0, none⟩) n c2) n _ rfl O2.out ad n' cap' (l'.map (Value.int .u8)) rfl (by rw [List.length_map, Hl.out, Nat.mul_one]) HN.out (ints_oneCell _ _) (by unfold maxLen; omega) (by omega) hs2.out ?_; intro v' w3 hown hg hnil; have Hown := Lib.hid hown; have Hgr := Lib.hid hg; have Hnil := Lib.hid hnil; clear hown hg hnil))
      go_meet
      exact HJ.out _ _ (by simpa using Hown.out) Hgr.out (fun e => absurd (Hnil.out.1 e) (by simp))
  case rest =>
    obtain ⟨g3, c3, rfl, S3, H3, H3', B3⟩ := hcut
    have BU : ∃ Bu : World → Prop, (∀ wx, Bu wx → Sl .u8 wx (some ⟨g3, 0, none⟩) (n + n') c3 (l ++ l') ∧ Sl .u8 wx a n cap l ∧ Sl .u8 wx a' n' cap' l' ∧ Below w.heap.size w wx) ∧ (∀ wx wy, Bu wx → Below wx.heap.size wx wy → Bu wy) ∧ Bu wc :=
      ⟨fun wx => Sl .u8 wx (some ⟨g3, 0, none⟩) (n + n') c3 (l ++ l') ∧ Sl .u8 wx a n cap l ∧ Sl .u8 wx a' n' cap' l' ∧ Below w.heap.size w wx, fun _ h => h,
        fun wx wy h hb => ⟨h.1.below hb, h.2.1.below hb, h.2.2.1.below hb, h.2.2.2.trans (hb.mono h.2.2.2.size)⟩, S3, H3, H3', B3⟩
    obtain ⟨Bu, hU, hS, h3⟩ := BU
    have U := Lib.hid hU
    have St := Lib.hid hS
    have U3 := Lib.hid h3
    have HC := Lib.hid (sm.crcOn_append 0 l l')
    have HA := Lib.hid (sm.adlOn_append 1 l l')
    have l1 := sm.crcOn_lt (show 0 < 4294967296 by omega) hb
    have l2 := sm.adlOn_lt 1 l
    clear S3 H3 H3' B3 hU hS h3
    go_wp2_with fail
    go_must (refine (own_any a n cap l _ (U.out _ U3.out).2.1 (by omega)).mono ?_)
    rintro e w4 ⟨v, rfl, ⟨g4, d4, rfl, hg, hown⟩, hb2⟩
    have S4 := Lib.hid (Fresh.sl hown (U.out _ U3.out).2.1.wf)
    have U4 := Lib.hid (St.out _ _ U3.out hb2)
    clear hown hb2 hg
    go_wp2_with fail
    go_must (refine (crc_any _ _ d4 l _ S4.out.len (Nat.le_trans S4.out.fits S4.out.most) hb S4.out.rd).mono ?_)
    rintro e w5 ⟨rfl, hb2⟩
    have U5 := Lib.hid (St.out _ _ U4.out hb2)
    clear hb2
    go_wp2_with fail
    go_must (refine (own_any a' n' cap' l' _ (U.out _ U5.out).2.2.1 (by omega)).mono ?_)
    rintro e w6 ⟨v, rfl, ⟨g6, d6, rfl, hg, hown⟩, hb2⟩
    have S6 := Lib.hid (Fresh.sl hown (U.out _ U5.out).2.2.1.wf)
    have U6 := Lib.hid (St.out _ _ U5.out hb2)
    clear hown hb2 hg
    go_wp2_with fail
    go_must (refine (crcOn_any (sm.crcOn 0 l) _ _ d6 l' _ l1 S6.out.len (Nat.le_trans S6.out.fits S6.out.most) hb' S6.out.rd).mono ?_)
    rintro e w7 ⟨rfl, hb2⟩
    have U7 := Lib.hid (St.out _ _ U6.out hb2)
    clear hb2
    go_wp2_with fail
    go_must (refine (own_any (some ⟨g3, 0, none⟩) (n + n') c3 (l ++ l') _ (U.out _ U7.out).1 (by omega)).mono ?_)
    rintro e w8 ⟨v, rfl, ⟨g8, d8, rfl, hg, hown⟩, hb2⟩
    have S8 := Lib.hid (Fresh.sl hown (U.out _ U7.out).1.wf)
    have U8 := Lib.hid (St.out _ _ U7.out hb2)
    clear hown hb2 hg
    go_wp2_with fail
    go_must (refine (crc_any _ _ d8 (l ++ l') _ S8.out.len (Nat.le_trans S8.out.fits S8.out.most) hbb S8.out.rd).mono ?_)
    rintro e w9 ⟨rfl, hb2⟩
    have U9 := Lib.hid (St.out _ _ U8.out hb2)
    clear hb2
    rw [HC.out]
    go_wp2_with fail
    go_must (refine (own_any a n cap l _ (U.out _ U9.out).2.1 (by omega)).mono ?_)
    rintro e w10 ⟨v, rfl, ⟨g10, d10, rfl, hg, hown⟩, hb2⟩
    have S10 := Lib.hid (Fresh.sl hown (U.out _ U9.out).2.1.wf)
    have U10 := Lib.hid (St.out _ _ U9.out hb2)
    clear hown hb2 hg
    go_wp2_with fail
    go_must (refine (adler_any _ _ d10 l _ S10.out.len S10.out.fits S10.out.most hb S10.out.rd).mono ?_)
    rintro e wq ⟨rfl, rfl⟩
    go_wp2_with fail
    go_must (refine (own_any a' n' cap' l' _ (U.out _ U10.out).2.2.1 (by omega)).mono ?_)
    rintro e w11 ⟨v, rfl, ⟨g11, d11, rfl, hg, hown⟩, hb2⟩
    have S11 := Lib.hid (Fresh.sl hown (U.out _ U10.out).2.2.1.wf)
    have U11 := Lib.hid (St.out _ _ U10.out hb2)
    clear hown hb2 hg
    go_wp2_with fail
    go_must (refine (adlerOn_any (sm.adlOn 1 l) _ _ d11 l' _ l2 S11.out.len S11.out.fits S11.out.most hb' S11.out.rd).mono ?_)
    rintro e wq ⟨rfl, rfl⟩
    go_wp2_with fail
    go_must (refine (own_any (some ⟨g3, 0, none⟩) (n + n') c3 (l ++ l') _ (U.out _ U11.out).1 (by omega)).mono ?_)
    rintro e w12 ⟨v, rfl, ⟨g12, d12, rfl, hg, hown⟩, hb2⟩
    have S12 := Lib.hid (Fresh.sl hown (U.out _ U11.out).1.wf)
    have U12 := Lib.hid (St.out _ _ U11.out hb2)
    clear hown hb2 hg
    go_wp2_with fail
    go_must (refine (adler_any _ _ d12 (l ++ l') _ S12.out.len S12.out.fits S12.out.most hbb S12.out.rd).mono ?_)
    rintro e wq ⟨rfl, rfl⟩
    rw [HA.out]
    go_wp2_with fail
    go_ret
    exact ⟨rfl, (U.out _ U12.out).2.2.2⟩
end Go.Proofs.Ytplgeffihjhobaa
