/- The walk of DctBack. -/
import Derived.Test.YtdpccgnmlfakfaaDctLaw3
import Derived.Test.YtdpccgnmlfakfaaDctMath7
import Derived.BigQuiet
namespace Go.Proofs.Ytdpccgnmlfakfaa
open Go.RowKit

/-- the block of samples -/
def blkAt (l : List Int) (i : Nat) : Int := if i < l.length then l.getD i 0 - 128 else 0
def blk (l : List Int) : List Int := (List.range 64).map (blkAt l)
theorem partR_rest {f : Nat → Int} {k : Nat} (h : ∀ i, k ≤ i → f i = 0) : dm.partR f k = (List.range 64).map f := by
  unfold dm.partR
  apply List.map_congr_left
  intro i _
  by_cases hi : i < k
  · rw [if_pos hi]
  · rw [if_neg hi, h i (by omega)]
theorem byte_range {l : List Int} (hw : ∀ x ∈ l, (Lit.int .u8 x).wf = true) (i : Nat) (hi : i < l.length) : 0 ≤ l.getD i 0 ∧ l.getD i 0 ≤ 255 := by
  have := hw _ (List.getElem_mem hi)
  rw [List.getD_eq_getElem?_getD, List.getElem?_eq_getElem hi]
  simp [Lit.wf, IntKind.min, IntKind.max, IntKind.bits, IntKind.signed] at this
  show 0 ≤ l[i] ∧ l[i] ≤ 255
  omega
theorem blkAt_range {l : List Int} (hw : ∀ x ∈ l, (Lit.int .u8 x).wf = true) (i : Nat) : -128 ≤ blkAt l i ∧ blkAt l i ≤ 127 := by
  unfold blkAt
  split
  · rename_i h
    have := byte_range hw i h
    omega
  · omega
theorem blk_mem {l : List Int} (hw : ∀ x ∈ l, (Lit.int .u8 x).wf = true) : ∀ x ∈ blk l, -128 ≤ x ∧ x ≤ 127 := by
  intro x hx
  obtain ⟨i, _, rfl⟩ := List.mem_map.1 hx
  exact blkAt_range hw i
theorem blk_length (l : List Int) : (blk l).length = 64 := by simp [blk]
theorem fit_small {m : List Int} {lo hi : Int} (hl : m.length = 64) (h : ∀ x ∈ m, lo ≤ x ∧ x ≤ hi) : dm.fitE m lo hi = 0 := by
  unfold dm.fitE
  rw [if_neg (by omega), if_neg]
  rintro ⟨x, hx, h'⟩
  have := h x hx
  omega
theorem fwd_length (l : List Int) : (dm.fwd l).length = 64 := by simp [dm.fwd, dm.turn_length]
theorem inv_length (l : List Int) : (dm.inv l).length = 64 := by simp [dm.inv, dm.turn_length]
theorem fwd_small {m : List Int} (h : ∀ x ∈ m, -256 ≤ x ∧ x ≤ 256) : ∀ x ∈ dm.fwd m, -1048576 ≤ x ∧ x ≤ 1048576 := by
  have h0 : dm.Within 256 m := h
  have h1 := dm.turn_within dm.bas_within (dm.turn_within dm.bas_within h0)
  intro x hx
  obtain ⟨y, hy, rfl⟩ := List.mem_map.1 hx
  have := h1 y hy
  simp only [Nat.reduceMul] at this
  unfold dm.rnd
  omega
theorem back_at {l : List Int} (hw : ∀ x ∈ l, (Lit.int .u8 x).wf = true) (k : Nat) (hk : k < 64) : -5 ≤ (dm.inv (dm.fwd (blk l))).getD k 0 - (blk l).getD k 0 - 128 ∧ (dm.inv (dm.fwd (blk l))).getD k 0 - (blk l).getD k 0 - 128 ≤ 5 ∧ 0 ≤ (dm.inv (dm.fwd (blk l))).getD k 0 ∧ (dm.inv (dm.fwd (blk l))).getD k 0 ≤ 255 ∧ -128 ≤ (blk l).getD k 0 ∧ (blk l).getD k 0 ≤ 127 := by
  have hm := blk_mem hw
  have hg : ∀ i, -128 ≤ (blk l).getD i 0 ∧ (blk l).getD i 0 ≤ 127 := by
    intro i
    rw [List.getD_eq_getElem?_getD]
    by_cases hi : i < (blk l).length
    · rw [List.getElem?_eq_getElem hi]; exact hm _ (List.getElem_mem hi)
    · rw [List.getElem?_eq_none (by omega)]; show -128 ≤ (0 : Int) ∧ (0 : Int) ≤ 127; omega
  have h := dm.there_and_back (blk l) (fun i => by have := hg i; omega) (k / 8) (k % 8) (by omega) (by omega)
  have e : k / 8 * 8 + k % 8 = k := by omega
  have h2 := dm.inv_at (dm.fwd (blk l)) (k / 8) (k % 8) (by omega) (by omega)
  rw [e] at h h2
  rw [h2]
  have h3 := hg k
  generalize dm.rnd (dm.iS (dm.fwd (blk l)) (k / 8) (k % 8)) = r at *
  generalize (blk l).getD k 0 = s at *
  unfold dm.clamp8
  refine ⟨?_, ?_, ?_, ?_, h3.1, h3.2⟩ <;> (split <;> (try split) <;> omega)

set_option maxRecDepth 100000 in
set_option maxHeartbeats 3200000 in
theorem dctBack_any (a : Option Addr) (n cap : Nat) (l : List Int) (w : World) (h : Sl .u8 w a n cap l) (_hr : cap * Try.prog.bytesOf 5 ≤ reachBytes) :
    Calls Try.prog 4 #[.slice a n cap] w fun e w' => e = .returned (.bool true) ∧ Below w.heap.size w w' := by
  have hmk := make64f
  have H := Lib.hid h
  have HWF := Lib.hid h.wf
  have LL := Lib.hid h.len
  have F1 : Hid (dm.fitE (blk l) (-32768) 32767 = 0) := Lib.hid (fit_small (blk_length l) (fun x hx => by have := blk_mem h.wf x hx; omega))
  have F2 : Hid (dm.fitE (dm.fwd (blk l)) (-1048576) 1048576 = 0) := Lib.hid (fit_small (fwd_length _) (fwd_small (fun x hx => by have := blk_mem h.wf x hx; omega)))
  have WB : Hid (∀ x ∈ blk l, (Lit.int .i64 x).wf = true) := Lib.hid (fun x hx => by have := blk_mem h.wf x hx; exact wf64 (by omega) (by omega))
  clear h
  go_enter Try.func4, Try.ntmps4
  go_wp2_with fail
  go_must (refine (wakes_any _).mono ?_)
  rintro e w1 ⟨rfl, hb1⟩
  have B1 := Lib.hid hb1
  have H1 := Lib.hid (H.out.below hb1)
  clear hb1 H
  go_wp2_with fail
  go_loopg [4] 64 (fun gk s wr => ∃ k : Nat, k ≤ 64 ∧ k ≤ n ∧ gk = 64 - k ∧ s = .int .i64 k ∧ wr.heap[w1.heap.size]? = some (.cells (ints (dm.partR (blkAt l) k)) 3 (0, 0)) ∧ Below w1.heap.size w1 wr)
  case atStart => exact ⟨0, by omega, by omega, rfl, rfl, by rw [dm.partR_zero]; exact heap_alloc_new _ _, (Below.refl _ _).alloc (Nat.le_refl _) _⟩
  case round =>
    obtain ⟨k, hk, hkn, hg, rfl, hx, hnx⟩ := hrel
    have Hg := Lib.hid hg
    have Hx := Lib.hid hx
    have Hnx := Lib.hid hnx
    clear hg hx hnx
    by_cases hlt : k < 64
    · by_cases hltn : k < n
      · obtain ⟨b1, o1, rfl⟩ := H1.out.rd.at (by rw [LL.out]; omega)
        have x1 := (H1.out.rd.below Hnx.out).cell k (by rw [LL.out]; exact hltn)
        have hc := ints_cell Hx.out k (by rw [dm.partR_length]; omega)
        have hf := ints_free Hx.out k
        have hk64 : (k : Int) < 64 := by omega
        have hkni : (k : Int) < (n : Int) := by omega
        obtain ⟨y1, y2⟩ := byte_range HWF.out k (by rw [LL.out]; exact hltn)
        have HV : Hid (blkAt l k = l.getD k 0 - 128) := Lib.hid (if_pos (by rw [LL.out]; exact hltn))
        have HZ : Hid ((wr.setCell ⟨w1.heap.size, k, none⟩ (.int .i64 (l.getD k 0 - 128))).heap[w1.heap.size]? = some (.cells (ints (dm.partR (blkAt l) (k + 1))) 3 (0, 0)) ∧ Below w1.heap.size w1 (wr.setCell ⟨w1.heap.size, k, none⟩ (.int .i64 (l.getD k 0 - 128)))) := Lib.hid (by
          refine ⟨?_, Hnx.out.setCell (Nat.le_refl _) _⟩
          rw [ints_store Hx.out k, ← HV.out, dm.partR_set])
        clear HV
        generalize l.getD k 0 = xv at *
        go_wp2_with fail
        obtain ⟨z0, z1⟩ := HZ.out
        go_roundg (64 - (k + 1))
        case measure => have := Hg.out; omega
        case rel => exact ⟨k + 1, by omega, by omega, rfl, by go_num, z0, z1⟩
      · have hx : wr.heap[w1.heap.size]? = some (.cells (ints (blk l)) 3 (0, 0)) := by
          have := Hx.out
          rw [partR_rest (f := blkAt l) (fun i hi => if_neg (by rw [LL.out]; omega))] at this
          exact this
        have HX := Lib.hid hx
        have S1 := Lib.hid (sl_cells hx (blk_length l) WB.out)
        have hb := B1.out.trans (Hnx.out.mono B1.out.size)
        have B2 := Lib.hid hb
        have R0 := Lib.hid (sl_cells hx (blk_length l) WB.out).rd
        clear hx Hx hb Hnx H1 B1 hmk
        have hkk : ¬ (k : Int) < (n : Int) := by omega
        have hk64 : (k : Int) < 64 := by omega
        go_wp2_with fail
        go_must (refine (ownI_any _ 64 64 (blk l) wr S1.out (by decide)).mono ?_)
        rintro e w2 ⟨v, rfl, hv, hb2⟩
        obtain ⟨g2, c2, rfl, _, hl2, hc2, hm2, hr2, _⟩ := hv.open
        have B3 := Lib.hid (B2.out.trans (hb2.mono B2.out.size))
        have R2 := Lib.hid hr2
        have R02 := Lib.hid (R0.out.below hb2)
        clear hv hr2 hb2 S1 B2 R0 hl2 hc2 hm2
        go_wp2_with fail
        go_must (refine (forward_any _ 64 c2 (blk l) w2 (blk_length l) (by decide) R2.out).mono ?_)
        rw [F1.out]
        rintro e w3 hp
        obtain ⟨v, rfl, hv, hb3⟩ := hp.ok
        obtain ⟨g3, c3, rfl, _, hl3, hc3, hm3, hr3, _⟩ := hv.open
        have B4 := Lib.hid (B3.out.trans (hb3.mono B3.out.size))
        have R3 := Lib.hid hr3
        have R03 := Lib.hid (R02.out.below hb3)
        clear hp hv hr3 hb3 B3 R2 R02 hl3 hc3 hm3
        go_wp2_with fail
        go_must (refine (inverse_any _ 64 c3 (dm.fwd (blk l)) w3 (fwd_length _) (by decide) R3.out).mono ?_)
        rw [F2.out]
        rintro e w4 hp
        obtain ⟨v, rfl, hv, hb4⟩ := hp.ok
        obtain ⟨g4, c4, rfl, _, hl4, hc4, hm4, hr4, _⟩ := hv.open
        have B5 := Lib.hid (B4.out.trans (hb4.mono B4.out.size))
        have R4 := Lib.hid hr4
        have R04 := Lib.hid (R03.out.below hb4)
        have HB := Lib.hid (back_at HWF.out)
        have KC : Hid (64 ≤ c4) := Lib.hid hc4
        clear hp hv hr4 hb4 B4 R3 R03 hl4 hm4 HX
        go_wp2_with fail
        go_loopg [56] 64 (fun gk s wx => ∃ k : Nat, k ≤ 64 ∧ gk = 64 - k ∧ s = .int .i64 k ∧ Below w4.heap.size w4 wx)
        case atStart => exact ⟨0, by omega, rfl, rfl, Below.refl _ _⟩
        case round =>
          obtain ⟨k, hk, hg, rfl, hnx⟩ := hrel
          have Hg := Lib.hid hg
          have Hnx := Lib.hid hnx
          clear hg hnx
          by_cases hlt : k < 64
          · have x1 := rd_at (i := k) (R04.out.below Hnx.out) (by rw [blk_length]; exact hlt)
            have x2 := rd_at (i := k) (R4.out.below Hnx.out) (by rw [inv_length]; exact hlt)
            obtain ⟨y1, y2, y3, y4, y5, y6⟩ := HB.out k hlt
            generalize (dm.inv (dm.fwd (blk l))).getD k 0 = xv at *
            generalize (blk l).getD k 0 = lv at *
            have hk64 : (k : Int) < 64 := by omega
            have z3 : decide (5 < xv - lv - 128) = false := decide_eq_false (by omega)
            have z4 : decide (xv - lv - 128 < -5) = false := decide_eq_false (by omega)
            go_wp2_with fail
            go_quiet (fail)
            go_wp2_with fail
            go_roundg (64 - (k + 1))
            case measure => have := Hg.out; omega
            case rel => exact ⟨k + 1, by omega, rfl, by go_num, below_drewN Hnx.out _⟩
          · obtain rfl : k = 64 := by omega
            have hb := B5.out.trans (Hnx.out.mono B5.out.size)
            have B6 := Lib.hid hb
            clear hb
            go_wp2_with fail
            go_ret
            exact ⟨rfl, B6.out⟩
    · have hx : wr.heap[w1.heap.size]? = some (.cells (ints (blk l)) 3 (0, 0)) := by
        have := Hx.out
        rw [show k = 64 by omega, dm.partR_done] at this
        exact this
      have HX := Lib.hid hx
      have S1 := Lib.hid (sl_cells hx (blk_length l) WB.out)
      have hb := B1.out.trans (Hnx.out.mono B1.out.size)
      have B2 := Lib.hid hb
      have R0 := Lib.hid (sl_cells hx (blk_length l) WB.out).rd
      clear hx Hx hb Hnx H1 B1 hmk
      have hk64 : ¬ (k : Int) < 64 := by omega
      go_wp2_with fail
      go_must (refine (ownI_any _ 64 64 (blk l) wr S1.out (by decide)).mono ?_)
      rintro e w2 ⟨v, rfl, hv, hb2⟩
      obtain ⟨g2, c2, rfl, _, hl2, hc2, hm2, hr2, _⟩ := hv.open
      have B3 := Lib.hid (B2.out.trans (hb2.mono B2.out.size))
      have R2 := Lib.hid hr2
      have R02 := Lib.hid (R0.out.below hb2)
      clear hv hr2 hb2 S1 B2 R0 hl2 hc2 hm2
      go_wp2_with fail
      go_must (refine (forward_any _ 64 c2 (blk l) w2 (blk_length l) (by decide) R2.out).mono ?_)
      rw [F1.out]
      rintro e w3 hp
      obtain ⟨v, rfl, hv, hb3⟩ := hp.ok
      obtain ⟨g3, c3, rfl, _, hl3, hc3, hm3, hr3, _⟩ := hv.open
      have B4 := Lib.hid (B3.out.trans (hb3.mono B3.out.size))
      have R3 := Lib.hid hr3
      have R03 := Lib.hid (R02.out.below hb3)
      clear hp hv hr3 hb3 B3 R2 R02 hl3 hc3 hm3
      go_wp2_with fail
      go_must (refine (inverse_any _ 64 c3 (dm.fwd (blk l)) w3 (fwd_length _) (by decide) R3.out).mono ?_)
      rw [F2.out]
      rintro e w4 hp
      obtain ⟨v, rfl, hv, hb4⟩ := hp.ok
      obtain ⟨g4, c4, rfl, _, hl4, hc4, hm4, hr4, _⟩ := hv.open
      have B5 := Lib.hid (B4.out.trans (hb4.mono B4.out.size))
      have R4 := Lib.hid hr4
      have R04 := Lib.hid (R03.out.below hb4)
      have HB := Lib.hid (back_at HWF.out)
      have KC : Hid (64 ≤ c4) := Lib.hid hc4
      clear hp hv hr4 hb4 B4 R3 R03 hl4 hm4 HX
      go_wp2_with fail
      go_loopg [56] 64 (fun gk s wx => ∃ k : Nat, k ≤ 64 ∧ gk = 64 - k ∧ s = .int .i64 k ∧ Below w4.heap.size w4 wx)
      case atStart => exact ⟨0, by omega, rfl, rfl, Below.refl _ _⟩
      case round =>
        obtain ⟨k, hk, hg, rfl, hnx⟩ := hrel
        have Hg := Lib.hid hg
        have Hnx := Lib.hid hnx
        clear hg hnx
        by_cases hlt : k < 64
        · have x1 := rd_at (i := k) (R04.out.below Hnx.out) (by rw [blk_length]; exact hlt)
          have x2 := rd_at (i := k) (R4.out.below Hnx.out) (by rw [inv_length]; exact hlt)
          obtain ⟨y1, y2, y3, y4, y5, y6⟩ := HB.out k hlt
          generalize (dm.inv (dm.fwd (blk l))).getD k 0 = xv at *
          generalize (blk l).getD k 0 = lv at *
          have hk64 : (k : Int) < 64 := by omega
          have z3 : decide (5 < xv - lv - 128) = false := decide_eq_false (by omega)
          have z4 : decide (xv - lv - 128 < -5) = false := decide_eq_false (by omega)
          go_wp2_with fail
          go_quiet (fail)
          go_wp2_with fail
          go_roundg (64 - (k + 1))
          case measure => have := Hg.out; omega
          case rel => exact ⟨k + 1, by omega, rfl, by go_num, below_drewN Hnx.out _⟩
        · obtain rfl : k = 64 := by omega
          have hb := B5.out.trans (Hnx.out.mono B5.out.size)
          have B6 := Lib.hid hb
          clear hb
          go_wp2_with fail
          go_ret
          exact ⟨rfl, B6.out⟩
end Go.Proofs.Ytdpccgnmlfakfaa

