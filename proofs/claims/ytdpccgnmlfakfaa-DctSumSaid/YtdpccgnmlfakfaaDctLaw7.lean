/- The walk of DctSum. -/
import Derived.Test.YtdpccgnmlfakfaaDctLaw6
import Derived.Test.YtdpccgnmlfakfaaDctMath8
namespace Go.Proofs.Ytdpccgnmlfakfaa
open Go.RowKit

theorem partR_skip {f : Nat → Int} {k : Nat} (h : f k = 0) : dm.partR f (k + 1) = dm.partR f k := by
  unfold dm.partR
  apply List.map_congr_left
  intro i _
  by_cases hi : i < k
  · rw [if_pos hi, if_pos (by omega)]
  · by_cases e : i = k
    · subst e; rw [if_pos (by omega), if_neg (by omega), h]
    · rw [if_neg hi, if_neg (by omega)]
theorem partR_last {f : Nat → Int} {k : Nat} (hk : k < 64) : (dm.partR f (k + 1)).getD k 0 = f k := by
  simp [dm.partR, List.getD_eq_getElem?_getD, hk]
def shiftL (l : List Int) (nv : Int) : List Int := (List.range 64).map fun i => blkAt l i + nv
theorem shiftL_length (l : List Int) (nv : Int) : (shiftL l nv).length = 64 := by simp [shiftL]
theorem shiftL_mem {l : List Int} {nv : Int} (hw : ∀ x ∈ l, (Lit.int .u8 x).wf = true) (h : -100 < nv ∧ nv < 100) : ∀ x ∈ shiftL l nv, -256 ≤ x ∧ x ≤ 256 := by
  intro x hx
  obtain ⟨i, _, rfl⟩ := List.mem_map.1 hx
  have := blkAt_range hw i
  omega
theorem blk_getD (l : List Int) (i : Nat) (hi : i < 64) : (blk l).getD i 0 = blkAt l i := by simp [blk, List.getD_eq_getElem?_getD, hi]
theorem shiftL_getD (l : List Int) (nv : Int) (i : Nat) (hi : i < 64) : (shiftL l nv).getD i 0 = blkAt l i + nv := by simp [shiftL, List.getD_eq_getElem?_getD, hi]
theorem sum_blk (l : List Int) : dm.sum8 (fun i => (blk l).getD i 0) 64 = dm.sum8 (blkAt l) 64 := dm.sum8_congr 64 (fun i hi => blk_getD l i hi)
theorem small_at {m : List Int} (h : ∀ x ∈ m, -1048576 ≤ x ∧ x ≤ 1048576) (i : Nat) : -1048576 ≤ m.getD i 0 ∧ m.getD i 0 ≤ 1048576 := by
  rw [List.getD_eq_getElem?_getD]
  by_cases hi : i < m.length
  · rw [List.getElem?_eq_getElem hi]; exact h _ (List.getElem_mem hi)
  · rw [List.getElem?_eq_none (by omega)]; show (-1048576 : Int) ≤ 0 ∧ (0 : Int) ≤ 1048576; omega

set_option maxRecDepth 100000 in
set_option maxHeartbeats 6400000 in
theorem dctSum_any (a : Option Addr) (n cap : Nat) (l : List Int) (x : Int) (w : World) (h : Sl .u8 w a n cap l) (_hr : cap * Try.prog.bytesOf 5 ≤ reachBytes) (_hx : (Lit.int .i64 x).wf = true) :
    Calls Try.prog 5 #[.slice a n cap, .int .i64 x] w fun e w' => e = .returned (.bool true) ∧ Below w.heap.size w w' := by
  have hmk := make64f
  obtain ⟨nv, hnv⟩ : ∃ nv, nv = Int.tmod x 100 := ⟨_, rfl⟩
  have hn1 : nv < 100 := by rw [hnv]; exact Int.tmod_lt_of_pos x (by decide)
  have hn2 : -100 < nv := by
    have := Int.tmod_lt_of_pos (-x) (b := 100) (by decide)
    rw [Int.neg_tmod] at this
    omega
  have hnv' := hnv.symm
  clear hnv
  have H := Lib.hid h
  have HWF := Lib.hid h.wf
  have LL := Lib.hid h.len
  have HSm := Lib.hid (shiftL_mem h.wf ⟨hn2, hn1⟩)
  have F1 : Hid (dm.fitE (blk l) (-32768) 32767 = 0) := Lib.hid (fit_small (blk_length l) (fun x hx => by have := blk_mem h.wf x hx; omega))
  have F2 : Hid (dm.fitE (shiftL l nv) (-32768) 32767 = 0) := Lib.hid (fit_small (shiftL_length l nv) (fun x hx => by have := HSm.out x hx; omega))
  have WB : Hid (∀ x ∈ blk l, (Lit.int .i64 x).wf = true) := Lib.hid (fun x hx => by have := blk_mem h.wf x hx; exact wf64 (by omega) (by omega))
  have WM : Hid (∀ x ∈ shiftL l nv, (Lit.int .i64 x).wf = true) := Lib.hid (fun x hx => by have := HSm.out x hx; exact wf64 (by omega) (by omega))
  clear h
  go_enter Try.func5, Try.ntmps5
  go_wp2_with fail
  go_must (refine (wakes_any _).mono ?_)
  rintro e w1 ⟨rfl, hb1⟩
  have B1 := Lib.hid hb1
  have H1 := Lib.hid (H.out.below hb1)
  clear hb1 H
  go_upto_region 3 with fail
  go_cut [5, 6] (fun s5 s6 wx => ∃ gl gm, s5 = .slice (some ⟨gl, 0, none⟩) 64 64 ∧ s6 = .slice (some ⟨gm, 0, none⟩) 64 64 ∧ gl ≠ gm ∧ w1.heap.size ≤ gl ∧ w1.heap.size ≤ gm ∧ wx.heap[gl]? = some (.cells (ints zero64) 3 (0, 0)) ∧ wx.heap[gm]? = some (.cells (ints zero64) 3 (0, 0)) ∧ Below w1.heap.size w1 wx)
  case first =>
    have HA : Hid (∀ A B : Obj, ((w1.drew.alloc A).alloc B).heap[w1.heap.size]? = some A ∧ ((w1.drew.alloc A).alloc B).heap[w1.heap.size + 1]? = some B ∧ Below w1.heap.size w1 ((w1.drew.alloc A).alloc B)) := Lib.hid (fun A B => ⟨heap_alloc2_old w1.drew _ _, heap_alloc2_new w1.drew _ _, ((Below.refl _ _).drew.alloc (Nat.le_refl _) _).alloc (by show w1.heap.size ≤ (w1.drew.alloc A).heap.size; simp) _⟩)
    go_region
    all_goals go_wp2_with fail
    all_goals go_meet
    all_goals obtain ⟨h1, h2, h3⟩ := HA.out (.cells (ints zero64) 3) (.cells (ints zero64) 3)
    all_goals first
      | exact ⟨w1.heap.size, w1.heap.size + 1, rfl, rfl, by omega, by omega, by omega, h1, h2, h3⟩
      | exact ⟨w1.heap.size + 1, w1.heap.size, rfl, rfl, by omega, by omega, by omega, h2, h1, h3⟩
  case rest =>
    obtain ⟨gl, gm, rfl, rfl, hne, hgl, hgm, hl0, hm0, hb2⟩ := hcut
    have HL0 := Lib.hid hl0
    have HM0 := Lib.hid hm0
    have HB0 := Lib.hid hb2
    have hne' : ¬ gm = gl := fun e => hne e.symm
    clear hl0 hm0 hb2 hmk
    go_wp2_with fail
    go_loopg [7, 9] 64 (fun gk sm s wr => ∃ k : Nat, k ≤ 64 ∧ gk = 64 - k ∧ s = .int .i64 k ∧ sm = .int .i64 (dm.sum8 (blkAt l) k) ∧ wr.heap[gl]? = some (.cells (ints (dm.partR (blkAt l) k)) 3 (0, 0)) ∧ wr.heap[gm]? = some (.cells (ints (dm.partR (fun i => blkAt l i + nv) k)) 3 (0, 0)) ∧ Below w1.heap.size w1 wr)
    case atStart => exact ⟨0, by omega, rfl, rfl, rfl, by rw [dm.partR_zero]; exact HL0.out, by rw [dm.partR_zero]; exact HM0.out, HB0.out⟩
    case round =>
      obtain ⟨k, hk, hg, rfl, rfl, hx, hm, hnx⟩ := hrel
      have Hg := Lib.hid hg
      have Hx := Lib.hid hx
      have Hm := Lib.hid hm
      have Hnx := Lib.hid hnx
      clear hg hx hm hnx HL0 HM0 HB0
      by_cases hlt : k < 64
      · have hk64 : (k : Int) < 64 := by omega
        by_cases hltn : k < n
        · obtain ⟨b1, o1, rfl⟩ := H1.out.rd.at (by rw [LL.out]; omega)
          have x1 := (H1.out.rd.below Hnx.out).cell k (by rw [LL.out]; exact hltn)
          have hc := ints_cell Hx.out k (by rw [dm.partR_length]; omega)
          have hf := ints_free Hx.out k
          have hkni : (k : Int) < (n : Int) := by omega
          obtain ⟨y1, y2⟩ := byte_range HWF.out k (by rw [LL.out]; exact hltn)
          have HV : Hid (blkAt l k = l.getD k 0 - 128) := Lib.hid (if_pos (by rw [LL.out]; exact hltn))
          have HZ : Hid ((wr.setCell ⟨gl, k, none⟩ (.int .i64 (l.getD k 0 - 128))).heap[gl]? = some (.cells (ints (dm.partR (blkAt l) (k + 1))) 3 (0, 0)) ∧ (wr.setCell ⟨gl, k, none⟩ (.int .i64 (l.getD k 0 - 128))).heap[gm]? = some (.cells (ints (dm.partR (fun i => blkAt l i + nv) k)) 3 (0, 0)) ∧ Below w1.heap.size w1 (wr.setCell ⟨gl, k, none⟩ (.int .i64 (l.getD k 0 - 128)))) := Lib.hid (by
            refine ⟨?_, ?_, Hnx.out.setCell hgl _⟩
            · rw [ints_store Hx.out k, ← HV.out, dm.partR_set]
            · rw [heap_setCell_other _ _ _ _ hne']; exact Hm.out)
          clear HV
          generalize l.getD k 0 = xv at *
          go_upto_region 10 with fail
          obtain ⟨z0, z1, z2⟩ := HZ.out
          have PL := Lib.hid z0
          have PM := Lib.hid z1
          have PB := Lib.hid z2
          clear z0 z1 z2 HZ hc hf x1 Hx Hm Hnx
          generalize wr.setCell ⟨gl, k, none⟩ (.int .i64 (xv - 128)) = w2 at *
          have c1 := ints_cell PL.out k (by rw [dm.partR_length]; omega)
          rw [partR_last hlt] at c1
          have c2 := ints_cell PM.out k (by rw [dm.partR_length]; omega)
          have f2 := ints_free PM.out k
          obtain ⟨v1, v2⟩ := blkAt_range HWF.out k
          have hsb := dm.sum_within (f := blkAt l) (fun i => by have := blkAt_range HWF.out i; omega) k hk
          have HS : Hid (dm.sum8 (blkAt l) (k + 1) = dm.sum8 (blkAt l) k + blkAt l k) := Lib.hid rfl
          obtain ⟨s1, s2⟩ := hsb
          have HZ2 : Hid ((w2.setCell ⟨gm, k, none⟩ (.int .i64 (blkAt l k + nv))).heap[gl]? = some (.cells (ints (dm.partR (blkAt l) (k + 1))) 3 (0, 0)) ∧ (w2.setCell ⟨gm, k, none⟩ (.int .i64 (blkAt l k + nv))).heap[gm]? = some (.cells (ints (dm.partR (fun i => blkAt l i + nv) (k + 1))) 3 (0, 0)) ∧ Below w1.heap.size w1 (w2.setCell ⟨gm, k, none⟩ (.int .i64 (blkAt l k + nv)))) := Lib.hid (by
            refine ⟨?_, ?_, PB.out.setCell hgm _⟩
            · rw [heap_setCell_other _ _ _ _ hne]; exact PL.out
            · rw [ints_store PM.out k]
              rw [show blkAt l k + nv = (fun i => blkAt l i + nv) k from rfl, dm.partR_set])
          have c3 : (w2.setCell ⟨gm, k, none⟩ (.int .i64 (blkAt l k + nv))).cell? ⟨gl, k, none⟩ = some (.int .i64 (blkAt l k)) := by
            have := ints_cell HZ2.out.1 k (by rw [dm.partR_length]; omega)
            rw [partR_last hlt] at this
            exact this
          generalize blkAt l k = bv at *
          generalize dm.sum8 (blkAt l) k = sv at *
          go_wp2_with fail
          obtain ⟨z0, z1, z2⟩ := HZ2.out
          go_roundg (64 - (k + 1))
          case measure => have := Hg.out; omega
          case rel => exact ⟨k + 1, by omega, rfl, by go_num, by rw [HS.out], z0, z1, z2⟩
        · have hkni : ¬ (k : Int) < (n : Int) := by omega
          have h0 : blkAt l k = 0 := if_neg (by rw [LL.out]; omega)
          have PL : Hid (wr.heap[gl]? = some (.cells (ints (dm.partR (blkAt l) (k + 1))) 3 (0, 0))) := Lib.hid (by rw [partR_skip h0]; exact Hx.out)
          have PM := Hm
          have PB := Hnx
          clear h0 Hx Hm Hnx
          go_upto_region 10 with fail
          generalize wr = w2 at *
          have c1 := ints_cell PL.out k (by rw [dm.partR_length]; omega)
          rw [partR_last hlt] at c1
          have c2 := ints_cell PM.out k (by rw [dm.partR_length]; omega)
          have f2 := ints_free PM.out k
          obtain ⟨v1, v2⟩ := blkAt_range HWF.out k
          have hsb := dm.sum_within (f := blkAt l) (fun i => by have := blkAt_range HWF.out i; omega) k hk
          have HS : Hid (dm.sum8 (blkAt l) (k + 1) = dm.sum8 (blkAt l) k + blkAt l k) := Lib.hid rfl
          obtain ⟨s1, s2⟩ := hsb
          have HZ2 : Hid ((w2.setCell ⟨gm, k, none⟩ (.int .i64 (blkAt l k + nv))).heap[gl]? = some (.cells (ints (dm.partR (blkAt l) (k + 1))) 3 (0, 0)) ∧ (w2.setCell ⟨gm, k, none⟩ (.int .i64 (blkAt l k + nv))).heap[gm]? = some (.cells (ints (dm.partR (fun i => blkAt l i + nv) (k + 1))) 3 (0, 0)) ∧ Below w1.heap.size w1 (w2.setCell ⟨gm, k, none⟩ (.int .i64 (blkAt l k + nv)))) := Lib.hid (by
            refine ⟨?_, ?_, PB.out.setCell hgm _⟩
            · rw [heap_setCell_other _ _ _ _ hne]; exact PL.out
            · rw [ints_store PM.out k]
              rw [show blkAt l k + nv = (fun i => blkAt l i + nv) k from rfl, dm.partR_set])
          have c3 : (w2.setCell ⟨gm, k, none⟩ (.int .i64 (blkAt l k + nv))).cell? ⟨gl, k, none⟩ = some (.int .i64 (blkAt l k)) := by
            have := ints_cell HZ2.out.1 k (by rw [dm.partR_length]; omega)
            rw [partR_last hlt] at this
            exact this
          generalize blkAt l k = bv at *
          generalize dm.sum8 (blkAt l) k = sv at *
          go_wp2_with fail
          obtain ⟨z0, z1, z2⟩ := HZ2.out
          go_roundg (64 - (k + 1))
          case measure => have := Hg.out; omega
          case rel => exact ⟨k + 1, by omega, rfl, by go_num, by rw [HS.out], z0, z1, z2⟩
      · obtain rfl : k = 64 := by omega
        have hx : wr.heap[gl]? = some (.cells (ints (blk l)) 3 (0, 0)) := by
          have := Hx.out
          rw [dm.partR_done] at this
          exact this
        have hm : wr.heap[gm]? = some (.cells (ints (shiftL l nv)) 3 (0, 0)) := by
          have := Hm.out
          rw [dm.partR_done] at this
          exact this
        have S1 := Lib.hid (sl_cells hx (blk_length l) WB.out)
        have S2 := Lib.hid (sl_cells hm (shiftL_length l nv) WM.out)
        have hb := B1.out.trans (Hnx.out.mono B1.out.size)
        have B2 := Lib.hid hb
        have hsum := dm.sum_within (f := blkAt l) (fun i => by have := blkAt_range HWF.out i; omega) 64 (by omega)
        have hf1 := dm.first_near (blk l) (by rw [sum_blk]; exact hsum)
        rw [sum_blk] at hf1
        have HF := Lib.hid (fun k hk h0 => dm.fwd_shift (blk l) (shiftL l nv) nv (fun i hi => by rw [blk_getD l i hi, shiftL_getD l nv i hi]) k hk h0)
        have hs0 := small_at (fwd_small (fun x hx => by have := blk_mem HWF.out x hx; omega)) 0
        have HS0 := Lib.hid (fun i => small_at (fwd_small (fun x hx => by have := blk_mem HWF.out x hx; omega)) i)
        clear hx Hx hm Hm hb Hnx H1 B1
        generalize dm.sum8 (blkAt l) 64 = sv at *
        have hk64 : ¬ (64 : Int) < 64 := by omega
        go_wp2_with fail
        go_must (refine (ownI_any _ 64 64 (blk l) wr S1.out (by decide)).mono ?_)
        rintro e w2 ⟨v, rfl, hv, hb2⟩
        obtain ⟨g2, c2, rfl, _, hl2, hc2, hm2, hr2, _⟩ := hv.open
        have B3 := Lib.hid (B2.out.trans (hb2.mono B2.out.size))
        have R2 := Lib.hid hr2
        have S22 := Lib.hid (S2.out.below hb2)
        clear hv hr2 hb2 S1 S2 B2 hl2 hc2 hm2
        go_wp2_with fail
        go_must (refine (forward_any _ 64 c2 (blk l) w2 (blk_length l) (by decide) R2.out).mono ?_)
        rw [F1.out]
        rintro e w3 hp
        obtain ⟨v, rfl, hv, hb3⟩ := hp.ok
        obtain ⟨g3, c3, rfl, _, hl3, hc3, hm3, hr3, _⟩ := hv.open
        have B4 := Lib.hid (B3.out.trans (hb3.mono B3.out.size))
        have R3 := Lib.hid hr3
        have S23 := Lib.hid (S22.out.below hb3)
        clear hp hv hr3 hb3 B3 R2 S22 hl3 hm3
        go_wp2_with fail
        go_must (refine (ownI_any _ 64 64 (shiftL l nv) w3 S23.out (by decide)).mono ?_)
        rintro e w4 ⟨v, rfl, hv, hb4⟩
        obtain ⟨g4, c4, rfl, _, hl4, hc4, hm4, hr4, _⟩ := hv.open
        have B5 := Lib.hid (B4.out.trans (hb4.mono B4.out.size))
        have R4 := Lib.hid hr4
        have R34 := Lib.hid (R3.out.below hb4)
        clear hv hr4 hb4 B4 R3 S23 hl4 hc4 hm4
        go_wp2_with fail
        go_must (refine (forward_any _ 64 c4 (shiftL l nv) w4 (shiftL_length l nv) (by decide) R4.out).mono ?_)
        rw [F2.out]
        rintro e w5 hp
        obtain ⟨v, rfl, hv, hb5⟩ := hp.ok
        obtain ⟨g5, c5, rfl, _, hl5, hc5, hm5, hr5, _⟩ := hv.open
        have B6 := Lib.hid (B5.out.trans (hb5.mono B5.out.size))
        have R5 := Lib.hid hr5
        have R35 := Lib.hid (R34.out.below hb5)
        have f0 := rd_at (i := 0) (R34.out.below hb5) (by rw [fwd_length]; decide)
        clear hp hv hr5 hb5 B5 R4 R34 hl5 hm5
        obtain ⟨q1, q2⟩ := hf1
        obtain ⟨q3, q4⟩ := hs0
        obtain ⟨q5, q6⟩ := hsum
        generalize (dm.fwd (blk l)).getD 0 0 = fv at *
        have q7 : ¬ 16 < 8 * fv - sv := by omega
        have q8 : ¬ 8 * fv - sv < -16 := by omega
        go_wp2_with fail
        go_loopg [14] 63 (fun gk s wx => ∃ k : Nat, 1 ≤ k ∧ k ≤ 64 ∧ gk = 64 - k ∧ s = .int .i64 k ∧ Below w5.heap.size w5 wx)
        case atStart => exact ⟨1, by omega, by omega, rfl, rfl, Below.refl _ _⟩
        case round =>
          obtain ⟨k, hk1, hk, hg, rfl, hnx⟩ := hrel
          have Hg := Lib.hid hg
          have Hnx := Lib.hid hnx
          clear hg hnx
          by_cases hlt : k < 64
          · have x1 := rd_at (i := k) (R35.out.below Hnx.out) (by rw [fwd_length]; exact hlt)
            have x2 := rd_at (i := k) (R5.out.below Hnx.out) (by rw [fwd_length]; exact hlt)
            have hsame := HF.out k hlt hk1
            obtain ⟨y1, y2⟩ := HS0.out k
            generalize (dm.fwd (blk l)).getD k 0 = xv at *
            generalize (dm.fwd (shiftL l nv)).getD k 0 = yv at *
            have hk64 : (k : Int) < 64 := by omega
            have z1 : xv ≤ yv := by omega
            have z2 : yv ≤ xv := by omega
            have z3 : decide (1 < xv - yv) = false := decide_eq_false (by omega)
            have z4 : decide (xv - yv < -1) = false := decide_eq_false (by omega)
            clear hsame
            go_wp2_with fail
            go_quiet (fail)
            go_wp2_with fail
            go_roundg (64 - (k + 1))
            case measure => have := Hg.out; omega
            case rel => exact ⟨k + 1, by omega, by omega, rfl, by go_num, below_drewN Hnx.out _⟩
          · obtain rfl : k = 64 := by omega
            have hb := B6.out.trans (Hnx.out.mono B6.out.size)
            have B7 := Lib.hid hb
            clear hb
            go_wp2_with fail
            go_ret
            exact ⟨rfl, B7.out⟩
end Go.Proofs.Ytdpccgnmlfakfaa

