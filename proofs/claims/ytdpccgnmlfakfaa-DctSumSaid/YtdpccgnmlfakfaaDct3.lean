/- The walk of turn: sums along rows, laid on their side. -/
import Derived.Test.YtdpccgnmlfakfaaDct2
import Derived.Laws.Cover3
namespace Go.Proofs.Ytdpccgnmlfakfaa
open Go.RowKit

theorem info64 : (Try.prog.info? 50).map (fun i => (i.zero, i.size)) = some (some (.agg (ints zero64)), 64) := by kernel_rfl
def zero8 : List Int := List.replicate 8 0
theorem info8 : (Try.prog.info? 45).map (fun i => (i.zero, i.size)) = some (some (.agg (ints zero8)), 8) := by kernel_rfl
theorem infoInt : (Try.prog.info? 3).map (fun i => (i.zero, i.size, i.bytes)) = some (some (.int .i64 0), 1, 8) := by kernel_rfl

theorem row_get (l : List Int) (r i : Nat) (hi : i < 8) : ((l.drop (8 * r)).take 8).getD i 0 = l.getD (8 * r + i) 0 := by
  simp only [List.getD_eq_getElem?_getD, List.getElem?_take, List.getElem?_drop]
  rw [if_pos hi]

theorem slice64 (g o r : Nat) (hr : r < 8) (w : World) : (Instr.sliceAt 50 (.pointer (some ⟨g, o, none⟩)) (some (.int .i64 (8 * (r : Int)))) (some (.int .i64 (8 * (r : Int) + 8))) none).run Try.prog w = .ok (.slice (some ⟨g, o + 8 * r, none⟩) 8 (64 - 8 * r)) w := by
  have ha : Try.prog.arrayLen 50 = 64 := by kernel_rfl
  have he : Try.prog.elem 50 = 3 := by kernel_rfl
  have ht : Try.prog.underlying 50 = some (.array (Try.prog.arrayLen 50) (Try.prog.elem 50)) := by rw [ha, he]; exact Try.underlying50
  obtain ⟨i0, hi0, _, hi1, _⟩ := info_parts infoInt
  rw [run_sliceAt_array_lh w 50 ⟨g, o, none⟩ ht .i64 .i64 (8 * (r : Int)) (8 * (r : Int) + 8) (by omega) (by omega) (by rw [ha]; omega), ha, he]
  have e1 : (8 * (r : Int)).toNat = 8 * r := by omega
  have e2 : (8 * (r : Int) + 8).toNat = 8 * r + 8 := by omega
  have hs : (sizeOf 3).run Try.prog w = .ok 1 w := by simp [sizeOf, typeInfo, hi0, hi1]
  rw [hs, e1, e2]
  have ea : (⟨g, o, none⟩ : Addr).add (8 * r * 1) = ⟨g, o + 8 * r, none⟩ := by unfold Addr.add; split <;> simp_all
  simp only [Result.andThen_ok, slicedAt, ea]
  rw [if_neg (by omega), show 8 * r + 8 - 8 * r = 8 by omega]
set_option maxRecDepth 100000 in
set_option maxHeartbeats 1600000 in
theorem turn_any (l b : List Int) (g o : Nat) (w : World) (hl : l.length = 64) (hb : b.length = 64) (hbb : dm.Within 8192 b) (hlb : dm.Within 1099511627776 l)
    (hc : ∀ i, i < 64 → w.cell? ⟨g, o + i, none⟩ = some (.int .i64 (l.getD i 0))) :
    Calls Try.prog 39 #[.pointer (some ⟨g, o, none⟩), .agg (ints b)] w fun e w' => e = .returned (.pointer (some ⟨w.heap.size + 1, 0, none⟩)) ∧ w'.heap[w.heap.size + 1]? = some (.cells (ints (dm.turn l b)) 50 (0, 0)) ∧ Below w.heap.size w w' := by
  obtain ⟨hz, hsz⟩ := zero_of_info info64
  obtain ⟨hz8, hsz8⟩ := zero_of_info info8
  obtain ⟨i0, hi0, _, hi1, _⟩ := info_parts infoInt
  have Hsz := Lib.hid hsz
  have Hsz8 := Lib.hid hsz8
  have Hl := Lib.hid hl
  have Hb := Lib.hid hb
  have Hc := Lib.hid hc
  clear hsz hsz8 hl hb hc
  go_enter Try.func39, Try.ntmps39
  go_wp2
  go_loopg [12] 8 (fun gk s wr => ∃ r : Nat, r ≤ 8 ∧ gk = 8 - r ∧ s = .int .i64 r ∧ wr.heap[w.heap.size]? = some (.cells (ints b) 46 (0, 0)) ∧
    wr.heap[w.heap.size + 1]? = some (.cells (ints (dm.part (dm.turnAt l b) r 0)) 50 (0, 0)) ∧ Below w.heap.size w wr)
  case atStart =>
    refine ⟨0, by omega, rfl, rfl, heap_alloc2_old _ _ _, ?_, ((Below.refl _ _).alloc (Nat.le_refl _) _).alloc (by simp) _⟩
    rw [dm.part_zero]
    exact heap_alloc2_new _ _ _
  case round =>
    obtain ⟨r, hr, hg, rfl, h0, h1, hb⟩ := hrel
    have Hg := Lib.hid hg
    have P0 := Lib.hid h0
    have P1 := Lib.hid h1
    have HB := Lib.hid hb
    clear hg h0 h1 hb
    by_cases hlt : r < 8
    · have hr8 : (r : Int) < 8 := by omega
      have hrow : Hid (((l.drop (8 * r)).take 8).length = 8) := Lib.hid (by rw [List.length_take, List.length_drop, Hl.out]; omega)
      have HR : Hid (∀ j, j < ((l.drop (8 * r)).take 8).length → wr.cell? ⟨g, o + 8 * r + j, none⟩ = some (.int .i64 (((l.drop (8 * r)).take 8).getD j 0))) := Lib.hid (by
        intro j hj
        rw [hrow.out] at hj
        rw [row_get l r j hj, Nat.add_assoc]
        exact keep_cell HB.out (Hc.out (8 * r + j) (by omega)))
      have HRG := Lib.hid (row_get l r)
      generalize (l.drop (8 * r)).take 8 = row at *
      have Hi8 : Hid ((Try.prog.info? 45).map (fun x => x.size) = some row.length) := Lib.hid (by rw [hrow.out]; exact Hsz8.out)
      have hsl := slice64 g o r hlt
      have hat : ∀ w, (Instr.arrayAt 45 (.slice (some ⟨g, o + 8 * r, none⟩) 8 (64 - 8 * r))).run Try.prog w = .ok (.pointer (some ⟨g, o + 8 * r, none⟩)) w := fun w => run_arrayAt w 45 _ 8 _ 8 _ Try.underlying45 (Nat.le_refl _)
      have Hrs : Hid ((Try.prog.info? 45).map (fun x => x.size) = some (ints row).size) := Lib.hid (by rw [ints_size, hrow.out]; exact Hsz8.out)
      have Hz8s : Hid ((ints zero8).size = (ints row).size) := Lib.hid (by rw [ints_size, ints_size, hrow.out]; rfl)
      go_wp2_with (first
        | (with_reducible refine wpList_load_ints rfl 45 _ rfl g (o + 8 * r) rfl row _ HR.out Try.underlying45 rfl Hi8.out ?_)
        | (with_reducible refine wpList_store_row rfl 45 _ _ rfl wr.heap.size _ rfl rfl 45 _ (heap_alloc_last _ _) Hrs.out Hz8s.out (ints_one _) ?_; rw [World.setRow_alloc_new]))
      have R0 : Hid ((wr.alloc (.cells (ints row) 45)).heap[w.heap.size]? = some (.cells (ints b) 46 (0, 0))) := Lib.hid (by rw [heap_alloc_old _ _ (block_lt P0.out)]; exact P0.out)
      have R1 : Hid ((wr.alloc (.cells (ints row) 45)).heap[w.heap.size + 1]? = some (.cells (ints (dm.part (dm.turnAt l b) r 0)) 50 (0, 0))) := Lib.hid (by rw [heap_alloc_old _ _ (block_lt P1.out)]; exact P1.out)
      have R2 : Hid ((wr.alloc (.cells (ints row) 45)).heap[wr.heap.size]? = some (.cells (ints row) 45 (0, 0))) := Lib.hid (heap_alloc_new _ _)
      have RB : Hid (Below w.heap.size w (wr.alloc (.cells (ints row) 45))) := Lib.hid (HB.out.alloc HB.out.size _)
      have hne : wr.heap.size ≠ w.heap.size + 1 := fun e => by have := block_lt P1.out; omega
      have Hne := Lib.hid hne
      clear hsl hat hne
      generalize hw2 : wr.alloc (.cells (ints row) 45) = w2 at *
      clear hw2
      generalize wr.heap.size = q at *
      go_loopg [25] 8 (fun gk2 s ws => ∃ k : Nat, k ≤ 8 ∧ gk2 = 8 - k ∧ s = .int .i64 k ∧ ws.heap[w.heap.size]? = some (.cells (ints b) 46 (0, 0)) ∧
        ws.heap[w.heap.size + 1]? = some (.cells (ints (dm.part (dm.turnAt l b) r k)) 50 (0, 0)) ∧ ws.heap[q]? = some (.cells (ints row) 45 (0, 0)) ∧ Below w.heap.size w ws)
      case atStart => exact ⟨0, by omega, rfl, rfl, R0.out, R1.out, R2.out, RB.out⟩
      case round =>
        obtain ⟨k, hk8, hg2, rfl, h0, h1, h2, hb⟩ := hrel
        have Hg2 := Lib.hid hg2
        have P0 := Lib.hid h0
        have P1 := Lib.hid h1
        have P2 := Lib.hid h2
        have HB := Lib.hid hb
        clear hg2 h0 h1 h2 hb
        by_cases hlt2 : k < 8
        · have hk8' : (k : Int) < 8 := by omega
          go_wp2_with (first
            | (with_reducible refine wpList_load_row rfl 45 _ rfl q rfl 45 _ (0, 0) _ P2.out Try.underlying45 rfl Hrs.out ?_))
          go_loopg [9, 29] 8 (fun gk3 s i wt => wt = wr ∧ ∃ j : Nat, j ≤ 8 ∧ gk3 = 8 - j ∧ i = .int .i64 j ∧ s = .int .i64 (dm.sum8 (fun i => b.getD (k * 8 + i) 0 * l.getD (8 * r + i) 0) j))
          case atStart => exact ⟨rfl, 0, by omega, rfl, rfl, rfl⟩
          case round =>
            obtain ⟨rfl, j, hj8, hg3, rfl, rfl⟩ := hrel
            have Hg3 := Lib.hid hg3
            clear hg3
            by_cases hlt3 : j < 8
            · have hj8' : (j : Int) < 8 := by omega
              have hix := fun w => run_index_ints (P := Try.prog) Try.underlying45 Try.underlying3 hi0 hi1 row hrow.out j hlt3 w
              have hbc := ints_cell P0.out (k * 8 + j) (by rw [Hb.out]; omega)
              have hsb := dm.sum8_within (M := 8192 * 1099511627776) (f := fun i => b.getD (k * 8 + i) 0 * l.getD (8 * r + i) 0) (fun i => dm.mul_within (hbb.getD _) (hlb.getD _)) j
              have hpb := dm.mul_within (hbb.getD (k * 8 + j)) (hlb.getD (8 * r + j))
              have HS : Hid (dm.sum8 (fun i => b.getD (k * 8 + i) 0 * l.getD (8 * r + i) 0) (j + 1) = dm.sum8 (fun i => b.getD (k * 8 + i) 0 * l.getD (8 * r + i) 0) j + b.getD (k * 8 + j) 0 * l.getD (8 * r + j) 0) := Lib.hid rfl
              rw [HRG.out j hlt3] at hix
              have hsb : -72057594037927936 ≤ dm.sum8 (fun i => b.getD (k * 8 + i) 0 * l.getD (8 * r + i) 0) j ∧ dm.sum8 (fun i => b.getD (k * 8 + i) 0 * l.getD (8 * r + i) 0) j ≤ 72057594037927936 := by
                have hjM : j * (8192 * 1099511627776) ≤ 8 * (8192 * 1099511627776) := Nat.mul_le_mul_right _ (by omega)
                omega
              have hpb : -9007199254740992 ≤ b.getD (k * 8 + j) 0 * l.getD (8 * r + j) 0 ∧ b.getD (k * 8 + j) 0 * l.getD (8 * r + j) 0 ≤ 9007199254740992 := by omega
              generalize dm.sum8 (fun i => b.getD (k * 8 + i) 0 * l.getD (8 * r + i) 0) j = sm at *
              generalize b.getD (k * 8 + j) 0 = bv at *
              generalize l.getD (8 * r + j) 0 = lv at *
              go_wp2
              go_roundg (8 - (j + 1))
              case measure => have := Hg3.out; omega
              case rel => exact ⟨rfl, j + 1, by omega, rfl, by go_num, by rw [HS.out]⟩
            · obtain rfl : j = 8 := by omega
              have hc := ints_cell P1.out (k * 8 + r) (by rw [dm.part_length]; omega)
              have hf := ints_free P1.out (k * 8 + r)
              have Hset := Lib.hid (dm.part_set (dm.turnAt l b) r k hlt)
              rw [dm.turnAt_at l b r k hlt] at Hset
              have HZ : Hid ((wr.setCell ⟨w.heap.size + 1, k * 8 + r, none⟩ (.int .i64 (dm.sum8 (fun i => b.getD (k * 8 + i) 0 * l.getD (8 * r + i) 0) 8))).heap[w.heap.size]? = some (.cells (ints b) 46 (0, 0)) ∧
                  (wr.setCell ⟨w.heap.size + 1, k * 8 + r, none⟩ (.int .i64 (dm.sum8 (fun i => b.getD (k * 8 + i) 0 * l.getD (8 * r + i) 0) 8))).heap[w.heap.size + 1]? = some (.cells (ints (dm.part (dm.turnAt l b) r (k + 1))) 50 (0, 0)) ∧
                  (wr.setCell ⟨w.heap.size + 1, k * 8 + r, none⟩ (.int .i64 (dm.sum8 (fun i => b.getD (k * 8 + i) 0 * l.getD (8 * r + i) 0) 8))).heap[q]? = some (.cells (ints row) 45 (0, 0)) ∧
                  Below w.heap.size w (wr.setCell ⟨w.heap.size + 1, k * 8 + r, none⟩ (.int .i64 (dm.sum8 (fun i => b.getD (k * 8 + i) 0 * l.getD (8 * r + i) 0) 8)))) := Lib.hid (by
                refine ⟨?_, ?_, ?_, HB.out.setCell (by simp) _⟩
                · rw [heap_setCell_other _ _ _ _ (by simp)]; exact P0.out
                · rw [ints_store P1.out (k * 8 + r), Hset.out]
                · rw [heap_setCell_other _ _ _ _ (by simpa using Hne.out)]; exact P2.out)
              generalize dm.sum8 (fun i => b.getD (k * 8 + i) 0 * l.getD (8 * r + i) 0) 8 = sm at *
              have hix : 8 * (k : Int) + (r : Int) = ((k * 8 + r : Nat) : Int) := by omega
              go_wp2
              obtain ⟨z0, z1, z2, z3⟩ := HZ.out
              go_roundg (8 - (k + 1))
              case measure => have := Hg2.out; omega
              case rel => exact ⟨k + 1, by omega, rfl, by go_num, z0, z1, z2, z3⟩
        · obtain rfl : k = 8 := by omega
          go_wp2
          go_roundg (8 - (r + 1))
          case measure => have := Hg.out; omega
          case rel => exact ⟨r + 1, by omega, rfl, by go_num, P0.out, by rw [← dm.part_col]; exact P1.out, HB.out⟩
    · obtain rfl : r = 8 := by omega
      have HP : Hid (wr.heap[w.heap.size + 1]? = some (.cells (ints (dm.turn l b)) 50 (0, 0))) := by
        have := P1.out
        rw [dm.part_done] at this
        exact this
      go_wp2
      go_ret
      exact ⟨rfl, HP.out, HB.out⟩
end Go.Proofs.Ytdpccgnmlfakfaa
