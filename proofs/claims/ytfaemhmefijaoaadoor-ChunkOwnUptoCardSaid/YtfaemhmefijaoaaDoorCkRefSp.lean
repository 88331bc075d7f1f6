/- The reference's Split. -/
import Derived.Test.YtfaemhmefijaoaaDoorCkRefJ
import Derived.Test.YtfaemhmefijaoaaDoorCkLaw0
import Derived.Deep.RegionWith
namespace Go.Proofs.YtfaemhmefijaoaaDoor
open Go.RowKit Go.Sort

theorem sign_below (w : World) : Calls Tryd.prog 30 #[] w fun e w' => ∃ g, e = .returned (.slice (some ⟨g, 0, none⟩) 8 8) ∧ Sl .u8 w' (some ⟨g, 0, none⟩) 8 8 ck.sign ∧ Below w.heap.size w w' := by
  refine (sign_any w).mono ?_
  rintro e w' ⟨rfl, rfl⟩
  exact ⟨_, rfl, sl_bytes w ck.sign 5 (0, 0) _ rfl (by decide) (by decide), (Below.refl _ _).alloc (Nat.le_refl _) _⟩
set_option maxRecDepth 100000 in
set_option maxHeartbeats 3200000 in
theorem refsplit_any (a : Option Addr) (n cap : Nat) (bs : List Int) (w : World) (h : Sl .u8 w a n cap bs) (hn : n ≤ 67108864) :
    Calls Tryd.prog 13 #[.slice a n cap] w (SplitPost (ck.split bs) w) := by
  have HS := Lib.hid h
  have hfit := h.fits
  have hmost := h.most
  unfold maxLen at hmost
  clear h
  by_cases h8 : n < 8
  · have HN : Hid (ck.split bs = none) := Lib.hid (by
      unfold ck.split
      refine if_neg fun h => ?_
      have h1 : (bs.take 8).length = 8 := by rw [h]; rfl
      rw [List.length_take, HS.out.len] at h1
      omega)
    have hd : decide ((n : Int) < 8) = true := by simp; omega
    have hd' : (n : Int) < 8 := by omega
    rw [HN.out]
    clear h8
    go_enter Tryd.func13, Tryd.ntmps13
    go_upto_region 1 with fail
    go_cut [21] from 12 to 21 (fun s21 wx => s21 = .bool true ∧ Below w.heap.size w wx)
    case first =>
      go_quiet (fail)
      have hb := below_drewN (Below.refl w.heap.size w) nq
      generalize w.drewN nq = w2 at *
      go_wp2_with fail
      go_meet
      exact ⟨rfl, hb⟩
    case rest =>
      obtain ⟨rfl, hb⟩ := hcut
      have HB := Lib.hid hb
      clear hb
      go_wp2_with fail
      go_ret2
      exact ⟨rfl, HB.out⟩
  · obtain ⟨b, off, rfl, hcell⟩ := HS.out.cells (by omega)
    have hd : decide ((n : Int) < 8) = false := by simp; omega
    have hd' : ¬ ((n : Int) < 8) := by omega
    have SA := Lib.hid (HS.out.take (m := 8) (by omega))
    clear hcell
    go_enter Tryd.func13, Tryd.ntmps13
    go_upto_region 1 with fail
    go_cut [21] from 12 to 21 (fun s21 wx => s21 = .bool (!decide (bs.take 8 = ck.sign)) ∧ Below w.heap.size w wx)
    case first =>
      go_region_with (first
        | (refine (sign_below _).mono ?_; rintro e w1 ⟨g, rfl, hs, hb⟩; have S1 := Lib.hid hs; have B1 := Lib.hid (show Below w.heap.size w w1 from (Below.drew (Below.refl _ _)).trans hb); clear hs hb)
        | (refine (same8_any _ _ 8 8 cap 8 (bs.take 8) ck.sign _ (SA.out.below B1.out) S1.out).mono ?_; rintro e w2 ⟨rfl, hb2⟩; have B2 := Lib.hid (B1.out.trans (hb2.mono B1.out.size)); clear hb2))
      all_goals (go_wp2_with fail; go_meet; exact ⟨rfl, B2.out⟩)
    case rest =>
      obtain ⟨rfl, hb⟩ := hcut
      have HB := Lib.hid hb
      clear hb
      by_cases hsg : bs.take 8 = ck.sign
      · rw [decide_eq_true hsg]
        have HSP : Hid (ck.split bs = ck.uptoEnd (ck.parse (bs.drop 8))) := Lib.hid (by unfold ck.split; rw [if_pos hsg])
        clear hsg SA hd hd'
        go_wp2_with fail
        go_loopg [4, 5] (n - 8) (fun gk vo vi wr => ∃ (o : Nat) (xs : List ck.El), 8 ≤ o ∧ o ≤ n ∧ gk = n - o ∧ vi = .int .i64 o ∧ ck.At w.heap.size wr vo xs ∧ ck.parse (bs.drop 8) = xs.map (·.ck) ++ ck.parse (bs.drop o) ∧ (∀ x ∈ xs, x.t ≠ ck.iend) ∧ Below w.heap.size w wr ∧ xs.length ≤ o)
        case atStart => exact ⟨8, [], Nat.le_refl _, by omega, rfl, rfl, ⟨World.ownsRow_nil _ _ _ _, (fun _ h => nomatch h)⟩, rfl, (fun _ h => nomatch h), HB.out, by simp⟩
        case round =>
          obtain ⟨vq, hvq⟩ : ∃ x, x = u4 := ⟨_, rfl⟩
          subst hvq
          obtain ⟨o, xs, ho8, hon, hg, rfl, hat, hpar, hnend, hbe, hxl⟩ := hrel
          have Hg := Lib.hid hg
          have HAT := Lib.hid hat
          have HPA := Lib.hid hpar
          have HNE := Lib.hid hnend
          have HBr := Lib.hid hbe
          have HXL := Lib.hid hxl
          have HLN : Hid ((bs.drop o).length = n - o) := Lib.hid (by rw [List.length_drop, HS.out.len])
          have HMAL : Hid (¬ ck.headOk (bs.drop o) → ck.split bs = none) := Lib.hid (fun h => by
            rw [HSP.out, HPA.out, ck.parse_none h, List.append_nil]
            exact ck.uptoEnd_none fun c hc => by
              obtain ⟨y, hy, rfl⟩ := List.mem_map.1 hc
              exact HNE.out y hy)
          clear hg hat hpar hnend hbe hxl HB
          go_wp2_with fail
          refine (get_any _ n cap bs o _ (HS.out.below HBr.out) (by omega) hon).mono ?_
          rintro e w2 ⟨rfl, rfl⟩
          by_cases h4 : o + 4 ≤ n
          · rw [if_pos h4, if_pos h4]
            obtain ⟨nn, hnn⟩ : ∃ nn, ck.be32 (bs.drop o) = nn := ⟨_, rfl⟩
            have HNN := Lib.hid hnn
            rw [hnn]
            clear hnn
            by_cases hbig : nn < 2147483648
            · have k1 : decide ((2147483648 : Int) ≤ (nn : Int)) = false := by simp; omega
              by_cases h12 : 12 ≤ n - o
              · have k2 : decide ((n : Int) - (o : Int) < 12) = false := by simp; omega
                by_cases hfits : nn + 12 ≤ n - o
                · have k3 : decide ((n : Int) - (o : Int) - 12 < (nn : Int)) = false := by simp; omega
                  have e1 : ((o : Int) + 4).toNat = o + 4 := by omega
                  have e2 : ((o : Int) + 8).toNat = o + 8 := by omega
                  have e3 : o + 8 - (o + 4) = 4 := by omega
                  have T := Lib.hid (((HS.out.below HBr.out).drop (m := o + 4) (by omega)).take (m := 4) (by omega))
                  have kc := conv_str T.out
                  obtain ⟨en, hen⟩ : ∃ en, en = o + 8 + nn := ⟨_, rfl⟩
                  have HEN := Lib.hid hen
                  have e4 : (o : Int) + 8 + (nn : Int) = (en : Int) := by omega
                  have e5 : en - (o + 4) = 4 + nn := by omega
                  have e6 : en - (o + 8) = nn := by omega
                  have hen1 : o + 8 ≤ en := by omega
                  have hen2 : en + 4 ≤ n := by omega
                  have TX := Lib.hid (((HS.out.below HBr.out).drop (m := o + 4) (by omega)).take (m := 4 + nn) (by omega))
                  have TD := Lib.hid (((HS.out.below HBr.out).drop (m := o + 8) (by omega)).take (m := nn) (by omega))
                  clear hen
                  go_wp2_with fail
                  clear kc
                  refine (get_any _ n cap bs en _ (HS.out.below HBr.out) (by omega) (by omega)).mono ?_
                  rintro e w2 ⟨rfl, rfl⟩
                  rw [if_pos hen2, if_pos hen2]
                  go_wp2_with fail
                  refine (refletters_any _ _ (by rw [strOfNums_size, T.out.len]; decide)).mono ?_
                  rintro e w2 ⟨rfl, rfl⟩
                  obtain ⟨lt, hlt⟩ : ∃ lt, ck.letters4 (strOfNums ((bs.drop (o + 4)).take 4)) = lt := ⟨_, rfl⟩
                  have HLT := Lib.hid hlt
                  rw [hlt]
                  clear hlt
                  cases lt with
                  | false =>
                    have HN : Hid (ck.split bs = none) := Lib.hid (HMAL.out (fun h => by
                      have h1 := h.2.2.2.1
                      unfold ck.lettersL at h1
                      rw [List.drop_drop, HLT.out] at h1
                      cases h1))
                    go_wp2_with fail
                    go_ret2
                    rw [HN.out]
                    exact ⟨rfl, HBr.out⟩
                  | true =>
                    go_wp2_with fail
                    refine (refCrc_any _ _ _ _ _ TX.out.len (Nat.le_trans TX.out.fits TX.out.most) TX.out.bytes TX.out.rd).mono ?_
                    rintro e w9 ⟨rfl, rfl⟩
                    by_cases hcrc : sm.crcOn 0 ((bs.drop (o + 4)).take (4 + nn)) = ck.be32 (bs.drop en)
                    · rw [hcrc]
                      have HOK : Hid (ck.headOk (bs.drop o)) := Lib.hid ⟨by rw [HLN.out]; exact h12, by rw [HNN.out]; exact hbig, by rw [HNN.out, HLN.out]; exact hfits, by rw [List.drop_drop]; exact HLT.out, by rw [HNN.out, List.drop_drop, List.drop_drop, ← Nat.add_assoc, ← HEN.out]; exact hcrc⟩
                      clear hcrc
                      have HTB := Lib.hid T.out.bytes
                      obtain ⟨t, ht⟩ : ∃ t, (bs.drop (o + 4)).take 4 = t := ⟨_, rfl⟩
                      obtain ⟨d, hd⟩ : ∃ d, (bs.drop (o + 8)).take nn = d := ⟨_, rfl⟩
                      rw [hd] at TD
                      rw [ht] at HTB ⊢
                      have HCK : Hid (ck.headCk (bs.drop o) = (t, d)) := Lib.hid (by unfold ck.headCk; rw [List.drop_drop, List.drop_drop, HNN.out, ht, hd])
                      have HREST : Hid (ck.headRest (bs.drop o) = bs.drop (en + 4)) := Lib.hid (by unfold ck.headRest; rw [List.drop_drop, HNN.out, HEN.out]; congr 1; omega)
                      have HPS : Hid (ck.parse (bs.drop 8) = xs.map (·.ck) ++ (t, d) :: ck.parse (bs.drop (en + 4))) := Lib.hid (by rw [HPA.out, ck.parse_some HOK.out, HCK.out, HREST.out])
                      have HDL : Hid (d.length = nn) := Lib.hid TD.out.len
                      clear ht hd
                      obtain ⟨i0, hi, hz0, hz1, hz2⟩ := info_parts infoCk
                      obtain ⟨i1, hi1, hy0, hy1, hy2⟩ := info_parts infoByte
                      have hlit := Lib.hid (World.ownsRow_lit (e := 5) (size := 1) wr #[] 0 HBr.out.size (by simp) rfl)
                      have HN1 := Lib.hid ((TD.out.below ((Below.refl _ _).alloc (Nat.le_refl _) (.cells #[] 5))).at_news)
                      have SZ1 : w.heap.size ≤ (wr.alloc (.cells #[] 5)).heap.size := by have := HBr.out.size; simp; omega
                      have HSZ1 := Lib.hid SZ1
                      have AT1 := Lib.hid (HAT.out.below ((Below.refl _ _).alloc (Nat.le_refl _) (.cells #[] 5)))
                      have BB1 := Lib.hid (HBr.out.alloc HBr.out.size (.cells #[] 5))
                      clear SZ1
                      have hxl := HXL.out
                      have hcmp := ck.iend_eq HTB.out
                      by_cases hend : t = ck.iend
                      · rw [decide_eq_true hend] at hcmp
                        have HEnd := Lib.hid hend
                        clear hend
                        go_wp2_with (first
                          | (at_builtin; refine wpList_append_own _ rfl (.tmp 84) (.tmp 89) 22 rfl w.heap.size 5 i1 (.int .u8 0) 1 1 Tryd.underlying22 hi1 hy0 hy1 hy2 rfl (by decide) (.slice (some ⟨wr.heap.size, 0, none⟩) 0 0) 0 _ rfl hlit.out ⟨b, off + (o + 8), none⟩ nn (cap - (o + 8)) (d.map (Value.int .u8)) rfl (by rw [List.length_map, HDL.out, Nat.mul_one]) HN1.out (ints_oneCell _ _) (by unfold maxLen; omega) (by omega) HSZ1.out ?_; intro v' w3 hown hg hnil; rw [Nat.zero_add, List.nil_append] at hown; obtain ⟨g3, c3, rfl⟩ := row_form hown (fun e => absurd (hnil.1 e) (by simp)); have O3 : Hid (ck.El.Ok ⟨t, d, g3, c3⟩ w.heap.size w3) := Lib.hid (by unfold ck.El.Ok; rw [HDL.out]; exact hown); have AT3 : Hid (ck.At w.heap.size w3 vq xs) := Lib.hid ⟨World.ownsRow.kept AT1.out.row hg (rows_apart AT1.out.row hlit.out (by decide)), fun y hy => World.ownsRow.kept (AT1.out.ok y hy) hg (.inr fun e => absurd (World.ownsRow.lt (HAT.out.ok y hy) wr.heap.size e).2 (Nat.lt_irrefl _))⟩; have AT4 := Lib.hid (AT3.out.below ((Below.refl _ _).alloc (Nat.le_refl _) (.cells #[.string (strOfNums t), .slice (some ⟨g3, 0, none⟩) nn c3] 57))); have O4 := Lib.hid (O3.out.below ((Below.refl _ _).alloc (Nat.le_refl _) (.cells #[.string (strOfNums t), .slice (some ⟨g3, 0, none⟩) nn c3] 57))); have NW := Lib.hid (news_alloc w3 [.string (strOfNums t), .slice (some ⟨g3, 0, none⟩) nn c3] 57); have BB3 := Lib.hid (BB1.out.grown hg BB1.out.size (fun j e => by cases e; exact HBr.out.size)); have BB4 := Lib.hid (BB3.out.alloc BB3.out.size (.cells #[.string (strOfNums t), .slice (some ⟨g3, 0, none⟩) nn c3] 57)); clear hown hg hnil)
                          | (at_builtin; go_must (refine wpList_append_own _ rfl (.tmp 82) (.tmp 92) 24 rfl w.heap.size 57 i0 (.agg #[.string ⟨#[]⟩, .slice none 0 0]) 2 40 Tryd.underlying24 hi hz0 hz1 hz2 rfl (by decide) vq xs.length _ rfl AT4.out.row ⟨w3.heap.size, 0, none⟩ 1 1 [.string (strOfNums t), .slice (some ⟨g3, 0, none⟩) nn c3] rfl rfl NW.out (by simp [Value.oneCell']) (by unfold maxLen; omega) (by omega) BB4.out.size ?_; intro v5 w5 hown hg hnil; have Hown := Lib.hid hown; have HGw := Lib.hid hg; clear hown hg hnil)))
                        have hat5 : ck.At w.heap.size w5 v5 (xs ++ [⟨t, d, g3, c3⟩]) := ⟨by
                          rw [ck.cells_snoc, List.length_append]
                          simp only [HDL.out]
                          exact Hown.out, fun y hy => by
                          rcases List.mem_append.1 hy with h | h
                          · exact World.ownsRow.kept (AT4.out.ok y h) HGw.out (rows_apart (AT4.out.ok y h) AT4.out.row (by decide))
                          · rw [List.mem_singleton.1 h]
                            exact World.ownsRow.kept O4.out HGw.out (rows_apart O4.out AT4.out.row (by decide))⟩
                        have hb5 := BB4.out.grown HGw.out BB4.out.size (fun j e => (World.ownsRow.lt AT4.out.row j e).1)
                        have HV : Hid (ck.split bs = some (xs.map (·.ck) ++ [(t, d)])) := Lib.hid (by
                          rw [HSP.out, HPS.out]
                          refine ck.uptoEnd_end (fun c hc => ?_) HEnd.out
                          obtain ⟨y, hy, rfl⟩ := List.mem_map.1 hc
                          exact HNE.out y hy)
                        go_ret2
                        rw [HV.out]
                        exact ⟨_, _, rfl, hat5, by rw [List.map_append]; rfl, hb5⟩
                      · rw [decide_eq_false hend] at hcmp
                        have HEnd := Lib.hid hend
                        clear hend
                        go_wp2_with (first
                          | (at_builtin; refine wpList_append_own _ rfl (.tmp 84) (.tmp 89) 22 rfl w.heap.size 5 i1 (.int .u8 0) 1 1 Tryd.underlying22 hi1 hy0 hy1 hy2 rfl (by decide) (.slice (some ⟨wr.heap.size, 0, none⟩) 0 0) 0 _ rfl hlit.out ⟨b, off + (o + 8), none⟩ nn (cap - (o + 8)) (d.map (Value.int .u8)) rfl (by rw [List.length_map, HDL.out, Nat.mul_one]) HN1.out (ints_oneCell _ _) (by unfold maxLen; omega) (by omega) HSZ1.out ?_; intro v' w3 hown hg hnil; rw [Nat.zero_add, List.nil_append] at hown; obtain ⟨g3, c3, rfl⟩ := row_form hown (fun e => absurd (hnil.1 e) (by simp)); have O3 : Hid (ck.El.Ok ⟨t, d, g3, c3⟩ w.heap.size w3) := Lib.hid (by unfold ck.El.Ok; rw [HDL.out]; exact hown); have AT3 : Hid (ck.At w.heap.size w3 vq xs) := Lib.hid ⟨World.ownsRow.kept AT1.out.row hg (rows_apart AT1.out.row hlit.out (by decide)), fun y hy => World.ownsRow.kept (AT1.out.ok y hy) hg (.inr fun e => absurd (World.ownsRow.lt (HAT.out.ok y hy) wr.heap.size e).2 (Nat.lt_irrefl _))⟩; have AT4 := Lib.hid (AT3.out.below ((Below.refl _ _).alloc (Nat.le_refl _) (.cells #[.string (strOfNums t), .slice (some ⟨g3, 0, none⟩) nn c3] 57))); have O4 := Lib.hid (O3.out.below ((Below.refl _ _).alloc (Nat.le_refl _) (.cells #[.string (strOfNums t), .slice (some ⟨g3, 0, none⟩) nn c3] 57))); have NW := Lib.hid (news_alloc w3 [.string (strOfNums t), .slice (some ⟨g3, 0, none⟩) nn c3] 57); have BB3 := Lib.hid (BB1.out.grown hg BB1.out.size (fun j e => by cases e; exact HBr.out.size)); have BB4 := Lib.hid (BB3.out.alloc BB3.out.size (.cells #[.string (strOfNums t), .slice (some ⟨g3, 0, none⟩) nn c3] 57)); clear hown hg hnil)
                          | (at_builtin; go_must (refine wpList_append_own _ rfl (.tmp 82) (.tmp 92) 24 rfl w.heap.size 57 i0 (.agg #[.string ⟨#[]⟩, .slice none 0 0]) 2 40 Tryd.underlying24 hi hz0 hz1 hz2 rfl (by decide) vq xs.length _ rfl AT4.out.row ⟨w3.heap.size, 0, none⟩ 1 1 [.string (strOfNums t), .slice (some ⟨g3, 0, none⟩) nn c3] rfl rfl NW.out (by simp [Value.oneCell']) (by unfold maxLen; omega) (by omega) BB4.out.size ?_; intro v5 w5 hown hg hnil; have Hown := Lib.hid hown; have HGw := Lib.hid hg; clear hown hg hnil)))
                        have hat5 : ck.At w.heap.size w5 v5 (xs ++ [⟨t, d, g3, c3⟩]) := ⟨by
                          rw [ck.cells_snoc, List.length_append]
                          simp only [HDL.out]
                          exact Hown.out, fun y hy => by
                          rcases List.mem_append.1 hy with h | h
                          · exact World.ownsRow.kept (AT4.out.ok y h) HGw.out (rows_apart (AT4.out.ok y h) AT4.out.row (by decide))
                          · rw [List.mem_singleton.1 h]
                            exact World.ownsRow.kept O4.out HGw.out (rows_apart O4.out AT4.out.row (by decide))⟩
                        have hb5 := BB4.out.grown HGw.out BB4.out.size (fun j e => (World.ownsRow.lt AT4.out.row j e).1)
                        go_roundg (n - (en + 4))
                        case measure => have := Hg.out; omega
                        case rel => exact ⟨en + 4, _, by omega, by omega, rfl, by go_num, hat5, by rw [HPS.out, List.map_append, List.append_assoc]; rfl, fun y hy => by
                          rcases List.mem_append.1 hy with h | h
                          · exact HNE.out y h
                          · rw [List.mem_singleton.1 h]
                            exact HEnd.out, hb5, by rw [List.length_append, List.length_singleton]; omega⟩
                    · have HN : Hid (ck.split bs = none) := Lib.hid (HMAL.out (fun h => by
                        have h1 := h.2.2.2.2
                        rw [HNN.out, List.drop_drop, List.drop_drop, ← Nat.add_assoc, ← HEN.out] at h1
                        exact hcrc h1))
                      obtain ⟨c1, hc1⟩ : ∃ c1, sm.crcOn 0 ((bs.drop (o + 4)).take (4 + nn)) = c1 := ⟨_, rfl⟩
                      obtain ⟨c2, hc2⟩ : ∃ c2, ck.be32 (bs.drop en) = c2 := ⟨_, rfl⟩
                      rw [hc1, hc2] at hcrc
                      rw [hc1, hc2]
                      have q1 : ((c2 : Int) != (c1 : Int)) = true := by simp; omega
                      have q2 : ((c2 : Int) == (c1 : Int)) = false := by simp; omega
                      clear hc1 hc2
                      go_wp2_with fail
                      go_ret2
                      rw [HN.out]
                      exact ⟨rfl, HBr.out⟩
                · have HN : Hid (ck.split bs = none) := Lib.hid (HMAL.out (fun h => by have := h.2.2.1; rw [HLN.out, HNN.out] at this; omega))
                  have k3 : (n : Int) - (o : Int) - 12 < (nn : Int) := by omega
                  go_wp2_with fail
                  go_ret2
                  rw [HN.out]
                  exact ⟨rfl, HBr.out⟩
              · have HN : Hid (ck.split bs = none) := Lib.hid (HMAL.out (fun h => by have := h.1; rw [HLN.out] at this; omega))
                have k2 : (n : Int) - (o : Int) < 12 := by omega
                go_wp2_with fail
                go_ret2
                rw [HN.out]
                exact ⟨rfl, HBr.out⟩
            · have HN : Hid (ck.split bs = none) := Lib.hid (HMAL.out (fun h => by have := h.2.1; rw [HNN.out] at this; omega))
              have k1 : (2147483648 : Int) ≤ (nn : Int) := by omega
              go_wp2_with fail
              go_ret2
              rw [HN.out]
              exact ⟨rfl, HBr.out⟩
          · rw [if_neg h4, if_neg h4]
            have HN : Hid (ck.split bs = none) := Lib.hid (HMAL.out (fun h => by have := h.1; rw [HLN.out] at this; omega))
            clear h4
            go_wp2_with fail
            go_ret2
            rw [HN.out]
            exact ⟨rfl, HBr.out⟩
      · rw [decide_eq_false hsg]
        have HN : Hid (ck.split bs = none) := Lib.hid (by unfold ck.split; rw [if_neg hsg])
        clear hsg
        go_wp2_with fail
        go_ret2
        rw [HN.out]
        exact ⟨rfl, HB.out⟩
end Go.Proofs.YtfaemhmefijaoaaDoor
