/- The walk of basis: the sixty-four numbers of the basis. -/
import Derived.Test.YtdpccgnmlfakfaaInts
import Derived.Test.YtdpccgnmlfakfaaDctMath
import Derived.RegionTactic
namespace Go.Proofs.Ytdpccgnmlfakfaa
open Go.RowKit

def kRow : List Int := [0, 8035, 7568, 6811, 5793, 4551, 3135, 1598, 0]
def zero64 : List Int := List.replicate 64 0
theorem zero64_length : zero64.length = 64 := by decide
theorem infoB : (Try.prog.info? 46).map (fun i => (i.zero, i.size)) = some (some (.agg (ints zero64)), 64) := by kernel_rfl

set_option maxRecDepth 100000 in
set_option maxHeartbeats 1600000 in
theorem basis_any (w : World) : Calls Try.prog 27 #[] w fun e w' => e = .returned (.agg (ints dm.basL)) ∧ Below w.heap.size w w' := by
  obtain ⟨hz, hsz⟩ := zero_of_info infoB
  have Hsz := Lib.hid hsz
  clear hsz
  go_enter Try.func27, Try.ntmps27
  go_wp2
  go_loopg [7] 8 (fun gk s wr => ∃ x : Nat, x ≤ 8 ∧ gk = 8 - x ∧ s = .int .i64 x ∧ wr.heap[w.heap.size]? = some (.cells (ints zero64) 46 (0, 0)) ∧ wr.heap[w.heap.size + 1]? = some (.cells (ints kRow) 59 (0, 0)) ∧
    wr.heap[w.heap.size + 1 + 1]? = some (.cells (ints (dm.tabP x 0)) 46 (0, 0)) ∧ Below w.heap.size w wr)
  case atStart =>
    refine ⟨0, by omega, rfl, rfl, (heap3 _ _ _ _).1, (heap3 _ _ _ _).2.1, ?_, (((Below.refl _ _).alloc (Nat.le_refl _) _).alloc (by simp) _).alloc (by simp; omega) _⟩
    rw [dm.tabP_zero]
    exact (heap3 _ _ _ _).2.2
  case round =>
    obtain ⟨x, hx, hg, rfl, h0, h1, h2, hb⟩ := hrel
    have Hg := Lib.hid hg
    have P0 := Lib.hid h0
    have P1 := Lib.hid h1
    have P2 := Lib.hid h2
    have Hb := Lib.hid hb
    clear hg h0 h1 h2 hb
    by_cases hlt : x < 8
    · have hc := ints_cell P2.out x (by rw [dm.tabP_length]; omega)
      have hf := ints_free P2.out x
      have hx8 : (x : Int) < 8 := by omega
      go_wp2
      have Q0 : Hid ((wr.setCell ⟨w.heap.size + 1 + 1, x, none⟩ (.int .i64 5793)).heap[w.heap.size]? = some (.cells (ints zero64) 46 (0, 0))) := Lib.hid (by rw [heap_setCell_other _ _ _ _ (by simp; omega)]; exact P0.out)
      have Q1 : Hid ((wr.setCell ⟨w.heap.size + 1 + 1, x, none⟩ (.int .i64 5793)).heap[w.heap.size + 1]? = some (.cells (ints kRow) 59 (0, 0))) := Lib.hid (by rw [heap_setCell_other _ _ _ _ (by simp)]; exact P1.out)
      have Q2 : Hid ((wr.setCell ⟨w.heap.size + 1 + 1, x, none⟩ (.int .i64 5793)).heap[w.heap.size + 1 + 1]? = some (.cells (ints (dm.tabP x 1)) 46 (0, 0))) := Lib.hid (by
        rw [ints_store P2.out x 5793, ← dm.tabP_set x 0 hlt]
        simp [dm.bas])
      have Qb : Hid (Below w.heap.size w (wr.setCell ⟨w.heap.size + 1 + 1, x, none⟩ (.int .i64 5793))) := Lib.hid (Hb.out.setCell (by simp; omega) _)
      clear hc hf
      generalize wr.setCell ⟨w.heap.size + 1 + 1, x, none⟩ (.int .i64 5793) = w2 at *
      go_loopg [4] 7 (fun gk2 s ws => ∃ u : Nat, 1 ≤ u ∧ u ≤ 8 ∧ gk2 = 8 - u ∧ s = .int .i64 u ∧ ws.heap[w.heap.size]? = some (.cells (ints zero64) 46 (0, 0)) ∧ ws.heap[w.heap.size + 1]? = some (.cells (ints kRow) 59 (0, 0)) ∧
        ws.heap[w.heap.size + 1 + 1]? = some (.cells (ints (dm.tabP x u)) 46 (0, 0)) ∧ Below w.heap.size w ws)
      case atStart => exact ⟨1, by omega, by omega, rfl, rfl, Q0.out, Q1.out, Q2.out, Qb.out⟩
      case round =>
        obtain ⟨u, hu1, hu8, hg2, rfl, h0, h1, h2, hb⟩ := hrel
        have Hg2 := Lib.hid hg2
        have P0 := Lib.hid h0
        have P1 := Lib.hid h1
        have P2 := Lib.hid h2
        have Hb := Lib.hid hb
        clear hg2 h0 h1 h2 hb
        by_cases hlt2 : u < 8
        · have hm0 : (2 * x + 1) * u ≤ 15 * 7 := Nat.mul_le_mul (by omega) (by omega)
          have hmi : (2 * (x : Int) + 1) * (u : Int) = (((2 * x + 1) * u : Nat) : Int) := by push_cast; rfl
          have HM := Lib.hid (show (2 * x + 1) * u = (2 * x + 1) * u from rfl)
          generalize hm : (2 * x + 1) * u = m at *
          go_upto_region 11 with fail
          go_cut [5] (fun s5 wx => wx = wr ∧ s5 = .int .i64 (dm.fold32 (m % 32) : Nat))
          case first =>
            by_cases h16 : m % 32 ≤ 16
            · have hf : dm.fold32 (m % 32) = m % 32 := if_pos h16
              have h16' : ¬ (32 - (m : Int) % 32 < (m : Int) % 32) := by omega
              have HF := Lib.hid hf
              clear hf
              go_wp2
              all_goals go_meet
              all_goals exact ⟨rfl, by rw [HF.out]; go_num⟩
            · have hf : dm.fold32 (m % 32) = 32 - m % 32 := if_neg h16
              have h16' : (32 - (m : Int) % 32 < (m : Int) % 32) := by omega
              have HF := Lib.hid hf
              clear hf
              go_wp2
              all_goals go_meet
              all_goals exact ⟨rfl, by rw [HF.out]; go_num⟩
          case rest =>
            obtain ⟨rfl, rfl⟩ := hcut
            have hfl := dm.fold32_le (m % 32) (Nat.mod_lt _ (by decide))
            have HB1 : Hid (dm.fold32 (m % 32) ≤ 8 → dm.bas u x = dm.kk (dm.fold32 (m % 32))) := Lib.hid (fun h => by subst hm; exact dm.bas_small u x (by omega) h)
            have HB2 : Hid (8 < dm.fold32 (m % 32) → dm.bas u x = - dm.kk (16 - dm.fold32 (m % 32))) := Lib.hid (fun h => by subst hm; exact dm.bas_great u x (by omega) h)
            have Hset := Lib.hid (dm.tabP_set x u hlt)
            generalize dm.fold32 (m % 32) = f at *
            have hc := ints_cell P2.out (u * 8 + x) (by rw [dm.tabP_length]; omega)
            have hf := ints_free P2.out (u * 8 + x)
            have HZ : Hid (∀ v, v = dm.bas u x → (wc.setCell ⟨w.heap.size + 1 + 1, u * 8 + x, none⟩ (.int .i64 v)).drew.heap[w.heap.size]? = some (.cells (ints zero64) 46 (0, 0)) ∧ (wc.setCell ⟨w.heap.size + 1 + 1, u * 8 + x, none⟩ (.int .i64 v)).drew.heap[w.heap.size + 1]? = some (.cells (ints kRow) 59 (0, 0)) ∧
                (wc.setCell ⟨w.heap.size + 1 + 1, u * 8 + x, none⟩ (.int .i64 v)).drew.heap[w.heap.size + 1 + 1]? = some (.cells (ints (dm.tabP x (u + 1))) 46 (0, 0)) ∧ Below w.heap.size w (wc.setCell ⟨w.heap.size + 1 + 1, u * 8 + x, none⟩ (.int .i64 v)).drew) := Lib.hid (by
              intro v hv
              simp only [heap_drew]
              refine ⟨?_, ?_, ?_, (Hb.out.setCell (by simp; omega) _).drew⟩
              · rw [heap_setCell_other _ _ _ _ (by simp; omega)]; exact P0.out
              · rw [heap_setCell_other _ _ _ _ (by simp)]; exact P1.out
              · rw [ints_store P2.out (u * 8 + x) v, hv, Hset.out])
            clear hm
            by_cases hf8 : 8 < f
            · have hk := ints_cell P1.out (16 - f) (by show 16 - f < 9; omega)
              have hkr := dm.kk_range (16 - f)
              have hke : kRow.getD (16 - f) 0 = dm.kk (16 - f) := rfl
              rw [hke] at hk
              have HV := Lib.hid (HB2.out hf8).symm
              clear hke
              generalize dm.kk (16 - f) = kv at *
              go_wp2_with fail
              go_region
              go_wp2
              obtain ⟨z0, z1, z2, z3⟩ := HZ.out (-kv) HV.out
              go_roundg (8 - (u + 1))
              case measure => have := Hg2.out; omega
              case rel => exact ⟨u + 1, by omega, by omega, rfl, by go_num, z0, z1, z2, z3⟩
            · have hk := ints_cell P1.out f (by show f < 9; omega)
              have hkr := dm.kk_range f
              have hke : kRow.getD f 0 = dm.kk f := rfl
              rw [hke] at hk
              have HV := Lib.hid (HB1.out (by omega)).symm
              clear hke
              generalize dm.kk f = kv at *
              go_wp2_with fail
              go_region
              go_wp2
              obtain ⟨z0, z1, z2, z3⟩ := HZ.out kv HV.out
              go_roundg (8 - (u + 1))
              case measure => have := Hg2.out; omega
              case rel => exact ⟨u + 1, by omega, by omega, rfl, by go_num, z0, z1, z2, z3⟩
        · obtain rfl : u = 8 := by omega
          go_wp2
          go_roundg (8 - (x + 1))
          case measure => have := Hg.out; omega
          case rel => exact ⟨x + 1, by omega, rfl, by go_num, P0.out, P1.out, by rw [← dm.tabP_col]; exact P2.out, Hb.out⟩
    · obtain rfl : x = 8 := by omega
      have Hz : Hid (Option.map (fun x => x.size) (Try.prog.info? 46) = some (ints (dm.tabP 8 0)).size) := by rw [ints_size, dm.tabP_length]; exact Hsz.out
      go_wp2_with (first
        | (with_reducible refine wpList_load_row rfl 46 _ rfl (w.heap.size + 1 + 1) rfl 46 _ (0, 0) _ P2.out Try.underlying46 rfl Hz.out ?_)
        | (with_reducible refine wpList_store_row rfl 46 _ _ rfl w.heap.size _ rfl rfl 46 _ P0.out Hz.out (by rw [ints_size, ints_size, dm.tabP_length, zero64_length]) (ints_one _) ?_))
      exact bodyPost_ret (v := .agg (ints dm.basL)) (by rw [← dm.tabP_done]; exact results_cell_row (p := 0) (ty := 46) rfl _ _ w.heap.size 46 _ (0, 0) _ rfl (setRow_heap wr _ _ _ _ _ P0.out) Try.underlying46 rfl Hz.out) rfl ⟨rfl, below_setRow Hb.out (Nat.le_refl _) _⟩
end Go.Proofs.Ytdpccgnmlfakfaa
