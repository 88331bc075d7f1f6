/- The walks of aside and of the closures. -/
import Derived.Test.YtdpccgnmlfakfaaDct1
namespace Go.Proofs.Ytdpccgnmlfakfaa
open Go.RowKit

theorem agg_ints (b : List Int) (h : b.length = 64) : (ints b).size = 64 := by rw [ints_size, h]

set_option maxRecDepth 100000 in
set_option maxHeartbeats 1600000 in
theorem aside_any (b : List Int) (hb : b.length = 64) (w : World) : Calls Try.prog 32 #[.agg (ints b)] w fun e w' => e = .returned (.agg (ints (dm.asideL b))) ∧ Below w.heap.size w w' := by
  obtain ⟨hz, hsz⟩ := zero_of_info infoB
  have Hsz := Lib.hid hsz
  have Hb := Lib.hid hb
  clear hsz hb
  go_enter Try.func32, Try.ntmps32
  go_wp2
  go_loopg [6] 8 (fun gk s wr => ∃ x : Nat, x ≤ 8 ∧ gk = 8 - x ∧ s = .int .i64 x ∧ wr.heap[w.heap.size]? = some (.cells (ints b) 46 (0, 0)) ∧ wr.heap[w.heap.size + 1]? = some (.cells (ints zero64) 46 (0, 0)) ∧
    wr.heap[w.heap.size + 1 + 1]? = some (.cells (ints (dm.part (dm.asideAt b) x 0)) 46 (0, 0)) ∧ Below w.heap.size w wr)
  case atStart =>
    refine ⟨0, by omega, rfl, rfl, (heap3 _ _ _ _).1, (heap3 _ _ _ _).2.1, ?_, (((Below.refl _ _).alloc (Nat.le_refl _) _).alloc (by simp) _).alloc (by simp; omega) _⟩
    rw [dm.part_zero]
    exact (heap3 _ _ _ _).2.2
  case round =>
    obtain ⟨x, hx, hg, rfl, h0, h1, h2, hb⟩ := hrel
    have Hg := Lib.hid hg
    have P0 := Lib.hid h0
    have P1 := Lib.hid h1
    have P2 := Lib.hid h2
    have HB := Lib.hid hb
    clear hg h0 h1 h2 hb
    by_cases hlt : x < 8
    · have hx8 : (x : Int) < 8 := by omega
      go_wp2
      go_loopg [9] 8 (fun gk2 s ws => ∃ u : Nat, u ≤ 8 ∧ gk2 = 8 - u ∧ s = .int .i64 u ∧ ws.heap[w.heap.size]? = some (.cells (ints b) 46 (0, 0)) ∧ ws.heap[w.heap.size + 1]? = some (.cells (ints zero64) 46 (0, 0)) ∧
        ws.heap[w.heap.size + 1 + 1]? = some (.cells (ints (dm.part (dm.asideAt b) x u)) 46 (0, 0)) ∧ Below w.heap.size w ws)
      case atStart => exact ⟨0, by omega, rfl, rfl, P0.out, P1.out, P2.out, HB.out⟩
      case round =>
        obtain ⟨u, hu8, hg2, rfl, h0, h1, h2, hb⟩ := hrel
        have Hg2 := Lib.hid hg2
        have P0 := Lib.hid h0
        have P1 := Lib.hid h1
        have P2 := Lib.hid h2
        have HB := Lib.hid hb
        clear hg2 h0 h1 h2 hb
        by_cases hlt2 : u < 8
        · have hu8' : (u : Int) < 8 := by omega
          have hc := ints_cell P2.out (u * 8 + x) (by rw [dm.part_length]; omega)
          have hf := ints_free P2.out (u * 8 + x)
          have hk := ints_cell P0.out (x * 8 + u) (by rw [Hb.out]; omega)
          have Hset := Lib.hid (dm.part_set (dm.asideAt b) x u hlt)
          rw [dm.asideAt_at b x u hlt] at Hset
          have HZ : Hid ((wr.setCell ⟨w.heap.size + 1 + 1, u * 8 + x, none⟩ (.int .i64 (b.getD (x * 8 + u) 0))).drew.heap[w.heap.size]? = some (.cells (ints b) 46 (0, 0)) ∧ (wr.setCell ⟨w.heap.size + 1 + 1, u * 8 + x, none⟩ (.int .i64 (b.getD (x * 8 + u) 0))).drew.heap[w.heap.size + 1]? = some (.cells (ints zero64) 46 (0, 0)) ∧
              (wr.setCell ⟨w.heap.size + 1 + 1, u * 8 + x, none⟩ (.int .i64 (b.getD (x * 8 + u) 0))).drew.heap[w.heap.size + 1 + 1]? = some (.cells (ints (dm.part (dm.asideAt b) x (u + 1))) 46 (0, 0)) ∧ Below w.heap.size w (wr.setCell ⟨w.heap.size + 1 + 1, u * 8 + x, none⟩ (.int .i64 (b.getD (x * 8 + u) 0))).drew) := Lib.hid (by
            simp only [heap_drew]
            refine ⟨?_, ?_, ?_, (HB.out.setCell (by simp; omega) _).drew⟩
            · rw [heap_setCell_other _ _ _ _ (by simp; omega)]; exact P0.out
            · rw [heap_setCell_other _ _ _ _ (by simp)]; exact P1.out
            · rw [ints_store P2.out (u * 8 + x), Hset.out])
          generalize b.getD (x * 8 + u) 0 = v at *
          go_wp2_with fail
          go_region
          go_wp2
          obtain ⟨z0, z1, z2, z3⟩ := HZ.out
          go_roundg (8 - (u + 1))
          case measure => have := Hg2.out; omega
          case rel => exact ⟨u + 1, by omega, rfl, by go_num, z0, z1, z2, z3⟩
        · obtain rfl : u = 8 := by omega
          go_wp2
          go_roundg (8 - (x + 1))
          case measure => have := Hg.out; omega
          case rel => exact ⟨x + 1, by omega, rfl, by go_num, P0.out, P1.out, by rw [← dm.part_col]; exact P2.out, HB.out⟩
    · obtain rfl : x = 8 := by omega
      have Hz : Hid (Option.map (fun x => x.size) (Try.prog.info? 46) = some (ints (dm.part (dm.asideAt b) 8 0)).size) := by rw [ints_size, dm.part_length]; exact Hsz.out
      go_wp2_with (first
        | (with_reducible refine wpList_load_row rfl 46 _ rfl (w.heap.size + 1 + 1) rfl 46 _ (0, 0) _ P2.out Try.underlying46 rfl Hz.out ?_)
        | (with_reducible refine wpList_store_row rfl 46 _ _ rfl (w.heap.size + 1) _ rfl rfl 46 _ P1.out Hz.out (by rw [ints_size, ints_size, dm.part_length, zero64_length]) (ints_one _) ?_))
      exact bodyPost_ret (v := .agg (ints (dm.asideL b))) (by unfold dm.asideL; rw [← dm.part_done]; exact results_cell_row (p := 2) (ty := 46) rfl _ _ (w.heap.size + 1) 46 _ (0, 0) _ rfl (setRow_heap wr _ _ _ _ _ P1.out) Try.underlying46 rfl Hz.out) rfl ⟨rfl, below_setRow HB.out (by omega) _⟩
end Go.Proofs.Ytdpccgnmlfakfaa
