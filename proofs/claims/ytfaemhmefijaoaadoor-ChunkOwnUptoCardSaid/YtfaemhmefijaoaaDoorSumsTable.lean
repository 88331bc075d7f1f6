/- The table of CRC-32's single bytes, as the program makes it. -/
import Derived.Test.YtfaemhmefijaoaaDoorRd
import Derived.Test.YtfaemhmefijaoaaDoorSumsMath
import Derived.Deep.WholeRow
import Derived.Laws.CopyOwn
namespace Go.Proofs.YtfaemhmefijaoaaDoor
open Go.RowKit
namespace sm
def tabRow (k : Nat) : Array Value := Array.ofFn (n := 256) fun i => .int .u32 (if i.val < k then (crcTab i.val : Int) else 0)
theorem and_one {c : Nat} (h : c < 4294967296) : bits BinOp.and IntKind.u32 (c : Int) 1 = ((c % 2 : Nat) : Int) := by
  have := u32_and_nat c 1 h (by omega)
  rw [Nat.and_one_is_mod] at this
  exact this
theorem step_odd {c : Nat} (h : c < 4294967296) (ho : c % 2 = 1) : Value.int .u32 (bits BinOp.xor IntKind.u32 ((c : Int) / 2) 3988292384) = .int .u32 ((crcStep c : Nat) : Int) := by
  have := u32_xor_nat (c / 2) 3988292384 (by omega) (by omega)
  unfold crcStep
  rw [if_pos ho, ← this]
  rfl
theorem step_even {c : Nat} (ho : ¬ c % 2 = 1) : Value.int .u32 ((c : Int) / 2) = .int .u32 ((crcStep c : Nat) : Int) := by
  unfold crcStep
  rw [if_neg ho]
  rfl
theorem tabRow_zero : (tabRow 0) = Array.replicate 256 (.int .u32 0) := by
  apply Array.ext
  · simp [tabRow]
  · intro i h1 h2; simp [tabRow]
theorem tabRow_size (k : Nat) : (tabRow k).size = 256 := by simp [tabRow]
theorem tabRow_get (k i : Nat) (h : i < 256) : (tabRow k)[i]? = some (.int .u32 (if i < k then (crcTab i : Int) else 0)) := by
  simp [tabRow, h]
theorem tabRow_one (k : Nat) : (tabRow k).all (·.oneCell') = true := by
  rw [Array.all_eq_true]
  intro i h
  simp only [tabRow, Array.getElem_ofFn]
  rfl
theorem tabRow_set (k : Nat) : (tabRow k).setIfInBounds k (.int .u32 (crcTab k : Int)) = tabRow (k + 1) := by
  apply Array.ext
  · simp [tabRow]
  · intro i h1 h2
    have hi : i < 256 := by simpa [tabRow] using h2
    rw [Array.getElem_setIfInBounds (by simpa [tabRow] using hi)]
    simp only [tabRow, Array.getElem_ofFn]
    by_cases e : k = i
    · subst e; simp
    · rw [if_neg e]
      by_cases l : i < k
      · rw [if_pos l, if_pos (by omega)]
      · rw [if_neg l, if_neg (by omega)]
end sm
theorem sm.tabRow_sizes (a b : Nat) : (sm.tabRow a).size = (sm.tabRow b).size := by rw [sm.tabRow_size, sm.tabRow_size]
theorem infoTab : (Tryd.prog.info? 89).map (fun i => (i.zero, i.size)) = some (some (.agg (sm.tabRow 0)), 256) := by rw [sm.tabRow_zero]; kernel_rfl
set_option maxRecDepth 100000 in
set_option maxHeartbeats 400000 in
theorem table_any (w : World) : Calls Tryd.prog 62 #[] w fun e w' => e = .returned (.agg (sm.tabRow 256)) ∧ Below w.heap.size w w' := by
  obtain ⟨hz, hsz⟩ := zero_of_info infoTab
  go_enter Tryd.func62, Tryd.ntmps62
  go_wp2
  go_loopw [4] (fun i wr => ∃ k : Nat, k ≤ 256 ∧ i = .int .i64 k ∧ wr.heap[w.heap.size]? = some (.cells (sm.tabRow 0) 89 (0, 0)) ∧ wr.heap[w.heap.size + 1]? = some (.cells (sm.tabRow k) 89 (0, 0)) ∧ Below w.heap.size w wr)
    (fun i _ => 256 - (intOf i).toNat)
  case atStart =>
    exact ⟨0, by omega, rfl, heap_alloc2_old _ _ _, heap_alloc2_new _ _ _, ((Below.refl _ _).alloc (Nat.le_refl _) _).alloc (by simp) _⟩
  case round =>
    obtain ⟨k, hk, rfl, hb0, hb1, hnx⟩ := hrel
    by_cases hlt : k < 256
    · have H0 := Lib.hid hb0
      have H1 := Lib.hid hb1
      have Hn := Lib.hid hnx
      clear hb0 hb1 hnx hz hsz
      go_wp2
      go_loop [3, 9] (fun c i => ∃ j : Nat, j ≤ 8 ∧ i = .int .i64 j ∧ c = .int .u32 (sm.crcSteps j k : Nat)) (fun _ i => 8 - (intOf i).toNat)
      case atStart => exact ⟨0, by omega, rfl, rfl⟩
      case round =>
        obtain ⟨j, hj, rfl, rfl⟩ := hrel
        have hc := sm.crcSteps_lt (c := k) j (by omega)
        have HS : Hid (sm.crcSteps (j + 1) k = sm.crcStep (sm.crcSteps j k)) := rfl
        generalize hcj : sm.crcSteps j k = c at *
        have HC := Lib.hid hcj
        clear hcj
        by_cases hj8 : j < 8
        · by_cases hodd : c % 2 = 1
          · have hb : (bits BinOp.and IntKind.u32 (c : Int) 1 == 1) = true := by
              rw [sm.and_one hc]; simp; omega
            go_wp2
            go_round
            case rel => exact ⟨j + 1, by omega, by go_num, by rw [HS.out, sm.step_odd hc hodd]⟩
            case measure => simp [intOf]; omega
          · have hb : (bits BinOp.and IntKind.u32 (c : Int) 1 == 1) = false := by
              rw [sm.and_one hc]; simp; omega
            go_wp2
            go_round
            case rel => exact ⟨j + 1, by omega, by go_num, by rw [HS.out, sm.step_even hodd]⟩
            case measure => simp [intOf]; omega
        · obtain rfl : j = 8 := by omega
          have hcell := (cell_of_row wr (w.heap.size + 1) k (sm.tabRow k) 89 (0, 0) H1.out).trans (sm.tabRow_get k k hlt)
          rw [if_neg (by omega)] at hcell
          have hfr := frozen_of_row wr (w.heap.size + 1) k (sm.tabRow k) 89 H1.out
          have hi : (k : Int) < 256 := by omega
          go_wp2
          go_roundw
          case rel =>
            refine ⟨k + 1, by omega, by go_num, ?_, ?_, ?_⟩
            · rw [heap_setCell_other _ _ _ _ (by simp)]; exact H0.out
            · rw [heap_setCell_same _ _ _ _ _ _ H1.out, ← HC.out]; exact congrArg (fun r => some (Obj.cells r 89 (0, 0))) (sm.tabRow_set k)
            · exact Hn.out.setCell (by simp) _
          case measure => simp [intOf]; omega
    · obtain rfl : k = 256 := by omega
      have H0 := Lib.hid hb0
      have H1 := Lib.hid hb1
      have Hn := Lib.hid hnx
      have Hz : Hid (Option.map (fun x => x.size) (Tryd.prog.info? 89) = some (sm.tabRow 256).size) := by rw [sm.tabRow_size]; exact hsz
      clear hb0 hb1 hnx hz hsz
      go_wp2_with (first
        | (with_reducible refine wpList_load_row rfl 89 _ rfl (w.heap.size + 1) rfl 89 _ (0, 0) _ H1.out Tryd.underlying89 rfl Hz.out ?_)
        | (with_reducible refine wpList_store_row rfl 89 _ _ rfl w.heap.size _ rfl rfl 89 _ H0.out Hz.out (by rw [sm.tabRow_size, sm.tabRow_size]) (sm.tabRow_one 256) ?_))
      exact bodyPost_ret (v := .agg (sm.tabRow 256)) (results_cell_row (p := 0) (ty := 89) rfl _ _ w.heap.size 89 _ (0, 0) _ rfl (setRow_heap wr _ _ _ _ _ H0.out) Tryd.underlying89 rfl Hz.out) rfl ⟨rfl, below_setRow Hn.out (Nat.le_refl _) _⟩
end Go.Proofs.YtfaemhmefijaoaaDoor
