/- The walk of spoil. -/
import Derived.Test.YtdpccgnmlfakfaaDctLaw3
import Derived.Maps.AppendAt
namespace Go.Proofs.Ytdpccgnmlfakfaa
open Go.RowKit

theorem grownBy_next {w wr w3 : World} {row vb vb' : Option Nat} {o : Obj} (h : w.grownBy wr row) (hv : vb = row ∨ ∃ b, vb = some b ∧ w.heap.size ≤ b) (hg : (wr.alloc o).grownBy w3 vb) (hl : vb' = vb ∨ vb' = some (wr.alloc o).heap.size) :
    w.grownBy w3 row ∧ (vb' = row ∨ ∃ b, vb' = some b ∧ w.heap.size ≤ b) := by
  have hs : (wr.alloc o).heap.size = wr.heap.size + 1 := by simp
  refine ⟨⟨hg.os.trans h.os, hg.tape.trans h.tape, hg.output.trans h.output, ?_, ?_⟩, ?_⟩
  · have := hg.size; have := h.size; omega
  · intro k hk hne
    rw [hg.block k (by have := h.size; omega) (by
      rcases hv with rfl | ⟨b, rfl, hb⟩
      · exact hne
      · intro e; cases e; omega), heap_alloc_old _ _ (by have := h.size; omega), h.block k hk hne]
  · rcases hl with rfl | rfl
    · exact hv
    · exact .inr ⟨_, rfl, by have := h.size; omega⟩

theorem grownBy_cell {w wr : World} {g : Nat} {i : Nat} {v : Value} (h : w.grownBy wr (some g)) : w.grownBy (wr.setCell ⟨g, i, none⟩ v) (some g) :=
  ⟨h.os, h.tape, h.output, by rw [show (wr.setCell ⟨g, i, none⟩ v).heap.size = wr.heap.size by simp]; exact h.size, fun k hk hne => by
    rw [heap_setCell_other _ _ _ _ (by intro e; exact hne (by rw [e]))]; exact h.block k hk hne⟩

set_option maxRecDepth 100000 in
set_option maxHeartbeats 1600000 in
theorem spoil_any (v : Value) (base n : Nat) (xs : List Value) (w : World) (h : w.ownsRow base 3 1 v n xs) (hn : n ≤ 64) :
    Calls Try.prog 24 #[v] w fun e w' => (∃ r, e = .returned r) ∧ w.grownBy w' v.ownBlock := by
  obtain ⟨i0, hi, hz0, hz1, hz2⟩ := info_parts infoInt0
  rcases h.2 with ⟨rfl, rfl⟩ | ⟨g, cap, cur, rfl, hb, hg, hnc, hcm, hcs, ht⟩
  · have HW : Hid (w.grownBy w (Value.slice none 0 0).ownBlock) := Lib.hid ⟨rfl, rfl, rfl, Nat.le_refl _, fun _ _ _ => rfl⟩
    have HO0 : Hid (w.ownsRow 0 3 1 (Value.slice none 0 0) (0 + 0) []) := Lib.hid (World.ownsRow_nil _ _ _ _)
    clear h
    go_enter Try.func24, Try.ntmps24
    go_wp2_with fail
    go_loopg [6] 0 (fun gk s wr => gk = 0 ∧ s = .int .i64 0 ∧ w = wr)
    case atStart => exact ⟨rfl, rfl, rfl⟩
    case round =>
      obtain ⟨_, rfl, rfl⟩ := hrel
      go_wp2_with fail
      go_loopg [0, 3] 20 (fun gk v s wr => ∃ (j : Nat) (ys : List Value), j ≤ 20 ∧ gk = 20 - j ∧ s = .int .i64 j ∧ wr.ownsRow 0 3 1 v (0 + j) ys ∧ w.grownBy wr (Value.slice none 0 0).ownBlock ∧ (v.ownBlock = (Value.slice none 0 0).ownBlock ∨ ∃ b, v.ownBlock = some b ∧ w.heap.size ≤ b))
      case atStart => exact ⟨0, _, by omega, rfl, rfl, HO0.out, HW.out, .inl rfl⟩
      case round =>
        obtain ⟨j, ys, hj, hg, rfl, hown, hgb, hvb⟩ := hrel
        have Hg := Lib.hid hg
        have Hown := Lib.hid hown
        have Hgb := Lib.hid hgb
        have Hvb := Lib.hid hvb
        clear hg hown hgb hvb
        by_cases hlt : j < 20
        · have hj20 : (j : Int) < 20 := by omega
          have HO := Lib.hid (Hown.out.alloc (.cells #[.int .i64 (-6)] 3))
          go_wp2_with (at_builtin; go_must (refine wpList_append_own_at _ rfl _ _ 22 rfl 0 3 i0 (.int .i64 0) 1 8 Try.underlying22 hi hz0 hz1 hz2 rfl (by decide) _ (0 + j) _ rfl HO.out ⟨wr.heap.size, 0, none⟩ 1 1 [.int .i64 (-6)] rfl rfl (cell_one_new _ _ _) (ints_oneCell .i64 [(-6)]) (by unfold maxLen; omega) (by omega) (by omega) ?_; intro v' w3 hown hg hnil hat; have Hown' := Lib.hid hown; have Hn := Lib.hid (grownBy_next Hgb.out Hvb.out hg hat); clear hown hg hnil hat))
          go_roundg (20 - (j + 1))
          case measure => have := Hg.out; omega
          case rel => exact ⟨j + 1, _, by omega, rfl, by go_num, Hown'.out, Hn.out.1, Hn.out.2⟩
        · obtain rfl : j = 20 := by omega
          go_wp2_with fail
          go_end0
          exact ⟨⟨_, rfl⟩, Hgb.out⟩
  · have HG := Lib.hid hg
    have HS := Lib.hid hcs
    have HW : Hid (w.grownBy w (some g)) := Lib.hid ⟨rfl, rfl, rfl, Nat.le_refl _, fun _ _ _ => rfl⟩
    have hc0 : (0 : Int) ≤ (n : Int) := by omega
    clear h hg hcs ht
    go_enter Try.func24, Try.ntmps24
    go_wp2_with fail
    go_loopg [6] n (fun gk s wr => ∃ (k : Nat) (cu : Array Value), k ≤ n ∧ gk = n - k ∧ s = .int .i64 k ∧ wr.heap[g]? = some (.cells cu 3 (0, 0)) ∧ cu.size = cap * 1 ∧ w.grownBy wr (some g))
    case atStart => exact ⟨0, _, by omega, rfl, rfl, HG.out, HS.out, HW.out⟩
    case round =>
      obtain ⟨k, cu, hk, hgk, rfl, hx, hcz, hgb⟩ := hrel
      have Hg := Lib.hid hgk
      have Hx := Lib.hid hx
      have Hz := Lib.hid hcz
      have Hgb := Lib.hid hgb
      clear hgk hx hcz hgb HG HS HW
      by_cases hlt : k < n
      · have hkn : (k : Int) < (n : Int) := by omega
        have hc : wr.cell? ⟨g, k, none⟩ = some (cu[k]'(by have := Hz.out; omega)) := (cell_of_row wr g k _ _ (0, 0) Hx.out).trans (Array.getElem?_eq_getElem _)
        generalize cu[k]'(by have := Hz.out; omega) = uv at *
        have hf : wr.frozen? ⟨g, k, none⟩ = false := frozen_of_row wr g k _ _ Hx.out
        have Z1 : Hid ((wr.setCell ⟨g, k, none⟩ (.int .i64 (-5))).heap[g]? = some (.cells (cu.setIfInBounds k (.int .i64 (-5))) 3 (0, 0))) := Lib.hid (heap_setCell_same wr g k _ _ _ Hx.out)
        have Z2 : Hid ((cu.setIfInBounds k (.int .i64 (-5))).size = cap * 1) := Lib.hid (by rw [Array.size_setIfInBounds]; exact Hz.out)
        have Z3 := Lib.hid (grownBy_cell (i := k) (v := .int .i64 (-5)) Hgb.out)
        go_wp2_with fail
        go_roundg (n - (k + 1))
        case measure => have := Hg.out; omega
        case rel => exact ⟨k + 1, _, by omega, rfl, by go_num, Z1.out, Z2.out, Z3.out⟩
      · obtain rfl : k = n := by omega
        have HO0 : Hid (wr.ownsRow 0 3 1 (Value.slice (some ⟨g, 0, none⟩) k cap) (k + 0) (cu.toList.take (k * 1))) := Lib.hid ⟨by rw [List.length_take, Array.length_toList, Hz.out]; omega, .inr ⟨g, cap, cu, rfl, Nat.zero_le _, Hx.out, hnc, hcm, Hz.out, rfl⟩⟩
        go_wp2_with fail
        go_loopg [0, 3] 20 (fun gk v s wr => ∃ (j : Nat) (ys : List Value), j ≤ 20 ∧ gk = 20 - j ∧ s = .int .i64 j ∧ wr.ownsRow 0 3 1 v (k + j) ys ∧ w.grownBy wr (Value.slice (some ⟨g, 0, none⟩) k cap).ownBlock ∧ (v.ownBlock = (Value.slice (some ⟨g, 0, none⟩) k cap).ownBlock ∨ ∃ b, v.ownBlock = some b ∧ w.heap.size ≤ b))
        case atStart => exact ⟨0, _, by omega, rfl, rfl, HO0.out, Hgb.out, .inl rfl⟩
        case round =>
          obtain ⟨j, ys, hj, hg, rfl, hown, hgb, hvb⟩ := hrel
          have Hg := Lib.hid hg
          have Hown := Lib.hid hown
          have Hgb := Lib.hid hgb
          have Hvb := Lib.hid hvb
          clear hg hown hgb hvb
          by_cases hlt : j < 20
          · have hj20 : (j : Int) < 20 := by omega
            have HO := Lib.hid (Hown.out.alloc (.cells #[.int .i64 (-6)] 3))
            go_wp2_with (at_builtin; go_must (refine wpList_append_own_at _ rfl _ _ 22 rfl 0 3 i0 (.int .i64 0) 1 8 Try.underlying22 hi hz0 hz1 hz2 rfl (by decide) _ (k + j) _ rfl HO.out ⟨wr.heap.size, 0, none⟩ 1 1 [.int .i64 (-6)] rfl rfl (cell_one_new _ _ _) (ints_oneCell .i64 [(-6)]) (by unfold maxLen; omega) (by omega) (by omega) ?_; intro v' w3 hown hg hnil hat; have Hown' := Lib.hid hown; have Hn := Lib.hid (grownBy_next Hgb.out Hvb.out hg hat); clear hown hg hnil hat))
            go_roundg (20 - (j + 1))
            case measure => have := Hg.out; omega
            case rel => exact ⟨j + 1, _, by omega, rfl, by go_num, Hown'.out, Hn.out.1, Hn.out.2⟩
          · obtain rfl : j = 20 := by omega
            go_wp2_with fail
            go_end0
            exact ⟨⟨_, rfl⟩, Hgb.out⟩
end Go.Proofs.Ytdpccgnmlfakfaa
