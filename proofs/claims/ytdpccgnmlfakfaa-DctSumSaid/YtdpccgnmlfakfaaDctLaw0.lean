/- The walk of wakes. -/
import Derived.Test.YtdpccgnmlfakfaaDct11
namespace Go.Proofs.Ytdpccgnmlfakfaa
open Go.RowKit

theorem AnsPost.ok {n : Nat} {l : List Int} {w w' : World} {e : Ending} (h : AnsPost n l 0 w e w') : ∃ v, e = .returned (.tuple #[v, .int .i64 0]) ∧ Fresh .i64 3 w.heap.size w' v n l ∧ Below w.heap.size w w' := by
  obtain ⟨h, hb⟩ := h
  rcases h with ⟨h, _⟩ | ⟨_, v, h1, h2⟩
  · exact absurd rfl h
  · exact ⟨v, h1, h2, hb⟩

/-- new memory opened: where it lies, and that it can be read -/
theorem Fresh.open {base n : Nat} {w' : World} {v : Value} {l : List Int} (h : Fresh .i64 3 base w' v n l) : ∃ g cap, v = .slice (some ⟨g, 0, none⟩) n cap ∧ base ≤ g ∧ l.length = n ∧ n ≤ cap ∧ cap ≤ maxLen ∧ Rd .i64 w' (some ⟨g, 0, none⟩) l ∧ w'.ownsRow base 3 1 (.slice (some ⟨g, 0, none⟩) n cap) n (l.map (Value.int .i64)) := by
  obtain ⟨g, cap, rfl, hb, hown⟩ := h
  have hl : l.length = n := by have := hown.1; simpa using this
  have hc : n ≤ cap ∧ cap ≤ maxLen := by
    rcases hown.2 with ⟨h', _⟩ | ⟨g', cap', cur, h', _, _, h1, h2, _⟩
    · cases h'
    · simp only [Value.slice.injEq, Option.some.injEq, Addr.mk.injEq, and_true, true_and] at h'
      obtain ⟨_, rfl⟩ := h'
      exact ⟨h1, h2⟩
  refine ⟨g, cap, rfl, hb, hl, hc.1, hc.2, .inr ⟨g, 0, rfl, fun i hi => ?_⟩, hown⟩
  rw [Nat.zero_add, hown.cellAt i (by omega), List.getElem?_map]
  simp [List.getD_eq_getElem?_getD, List.getElem?_eq_getElem hi]
theorem rd_at {w : World} {g i : Nat} {l : List Int} (h : Rd .i64 w (some ⟨g, 0, none⟩) l) (hi : i < l.length) : w.cell? ⟨g, i, none⟩ = some (.int .i64 (l.getD i 0)) := by
  have := h.cell i hi
  rw [Nat.zero_add] at this
  exact this

def eights : List Int := (List.range 64).map fun _ => 8
theorem sl_cells {w : World} {g : Nat} {l : List Int} {t : TypeId} (h : w.heap[g]? = some (.cells (ints l) t (0, 0))) (hl : l.length = 64) (hw : ∀ x ∈ l, (Lit.int .i64 x).wf = true) : Sl .i64 w (some ⟨g, 0, none⟩) 64 64 l :=
  ⟨hl, Nat.le_refl _, by decide, fun e => by simp at e, hw, .inr ⟨g, 0, rfl, fun i hi => by rw [Nat.zero_add]; exact ints_cell h i hi⟩⟩

set_option maxRecDepth 100000 in
set_option maxHeartbeats 3200000 in
theorem wakes_any (w : World) : Calls Try.prog 9 #[] w fun e w' => e = .returned (.bool true) ∧ Below w.heap.size w w' := by
  have hmk := make64f
  have F0 : Hid (dm.fitE eights (-32768) 32767 = 0) := Lib.hid (by decide +kernel)
  have F1 : Hid (dm.fitE zero64 (-1048576) 1048576 = 0) := Lib.hid (by decide +kernel)
  have F2 : Hid (dm.quantE 50 = 0) := Lib.hid (by decide +kernel)
  go_enter Try.func9, Try.ntmps9
  go_wp2_with fail
  go_loopg [13] 64 (fun gk s wr => ∃ k : Nat, k ≤ 64 ∧ gk = 64 - k ∧ s = .int .i64 k ∧ wr.heap[w.heap.size]? = some (.cells (ints (dm.partR (fun _ => 8) k)) 3 (0, 0)) ∧ Below w.heap.size w wr)
  case atStart => exact ⟨0, by omega, rfl, rfl, by rw [dm.partR_zero]; exact heap_alloc_new _ _, (Below.refl _ _).alloc (Nat.le_refl _) _⟩
  case round =>
    obtain ⟨k, hk, hg, rfl, hx, hnx⟩ := hrel
    have Hg := Lib.hid hg
    have Hx := Lib.hid hx
    have Hnx := Lib.hid hnx
    clear hg hx hnx
    by_cases hlt : k < 64
    · have hc := ints_cell Hx.out k (by rw [dm.partR_length]; omega)
      have hf := ints_free Hx.out k
      have hk64 : (k : Int) < 64 := by omega
      have HZ : Hid ((wr.setCell ⟨w.heap.size, k, none⟩ (.int .i64 8)).heap[w.heap.size]? = some (.cells (ints (dm.partR (fun _ => 8) (k + 1))) 3 (0, 0)) ∧ Below w.heap.size w (wr.setCell ⟨w.heap.size, k, none⟩ (.int .i64 8))) := Lib.hid (by
        refine ⟨?_, Hnx.out.setCell (Nat.le_refl _) _⟩
        rw [ints_store Hx.out k 8]
        rw [show (8 : Int) = (fun _ : Nat => (8 : Int)) k from rfl, dm.partR_set])
      go_wp2_with fail
      obtain ⟨z0, z1⟩ := HZ.out
      go_roundg (64 - (k + 1))
      case measure => have := Hg.out; omega
      case rel => exact ⟨k + 1, by omega, rfl, by go_num, z0, z1⟩
    · obtain rfl : k = 64 := by omega
      have hx : wr.heap[w.heap.size]? = some (.cells (ints eights) 3 (0, 0)) := by
        have := Hx.out
        rw [dm.partR_done] at this
        exact this
      have S1 := Lib.hid (sl_cells hx (by decide +kernel) (by decide +kernel))
      clear hx Hx
      go_wp2_with fail
      go_must (refine (ownI_any _ 64 64 eights wr S1.out (by decide)).mono ?_)
      rintro e w1 ⟨v, rfl, hv, hb1⟩
      obtain ⟨g1, c1, rfl, hg1, hl1, hc1, hm1, hr1, _⟩ := hv.open
      have B1 := Lib.hid (Hnx.out.trans (hb1.mono Hnx.out.size))
      have R1 := Lib.hid hr1
      clear hv hr1 hb1 hg1 S1 Hnx
      go_wp2_with fail
      go_must (refine (forward_any _ 64 c1 eights w1 (by decide +kernel) (by decide) R1.out).mono ?_)
      rw [F0.out]
      rintro e w2 hp
      obtain ⟨v, rfl, hv, hb2⟩ := hp.ok
      obtain ⟨gF, cF, rfl, hg1, hl1, hcF, hmF, hrF, _⟩ := hv.open
      have B2 := Lib.hid (B1.out.trans (hb2.mono B1.out.size))
      have RF := Lib.hid hrF
      clear hv hrF hb2 hg1 R1 hl1 hp B1
      go_wp2_with fail
      have RX := Lib.hid (sl_cells (heap_alloc_new w2 (.cells (ints zero64) 3)) (by decide +kernel) (by decide +kernel)).rd
      go_must (refine (inverse_any _ 64 64 zero64 _ (by decide +kernel) (by decide) RX.out).mono ?_)
      rw [F1.out]
      rintro e w3 hp
      obtain ⟨v, rfl, hv, hb3⟩ := hp.ok
      obtain ⟨gI, cI, rfl, hg1, hl1, hcI, hmI, hrI, _⟩ := hv.open
      have ha3 : Below w2.heap.size w2 w3 := ((Below.refl _ _).alloc (Nat.le_refl _) _).trans (hb3.mono (by simp))
      have B3 := Lib.hid (B2.out.trans (ha3.mono B2.out.size))
      have RI := Lib.hid hrI
      have RF3 := Lib.hid (RF.out.below ha3)
      clear hv hrI hb3 hg1 RX hl1 hp ha3 RF B2
      go_wp2_with fail
      go_must (refine (quant_any 50 false w3).mono ?_)
      rw [F2.out]
      rintro e w4 hp
      obtain ⟨v, rfl, hv, hb4⟩ := hp.ok
      obtain ⟨gQ, cQ, rfl, hg1, hl1, hcQ, hmQ, hrQ, _⟩ := hv.open
      have B4 := Lib.hid (B3.out.trans (hb4.mono B3.out.size))
      have RQ := Lib.hid hrQ
      have RF4 := Lib.hid (RF3.out.below hb4)
      have RI4 := Lib.hid (RI.out.below hb4)
      clear hv hrQ hb4 hg1 hl1 hp RF3 RI B3
      go_wp2_with fail
      go_must (refine (zigzag_any w4).mono ?_)
      rintro e w5 ⟨v, rfl, hv, hb5⟩
      obtain ⟨gZ, cZ, rfl, hg1, hl1, hcZ, hmZ, hrZ, _⟩ := hv.open
      have B5 := Lib.hid (B4.out.trans (hb5.mono B4.out.size))
      have f0 := rd_at (i := 0) (RF4.out.below hb5) (by decide +kernel)
      rw [show (dm.fwd eights).getD 0 0 = 64 by decide +kernel] at f0
      have f1 := rd_at (i := 1) (RF4.out.below hb5) (by decide +kernel)
      rw [show (dm.fwd eights).getD 1 0 = 0 by decide +kernel] at f1
      have f2 := rd_at (i := 5) (RI4.out.below hb5) (by decide +kernel)
      rw [show (dm.inv zero64).getD 5 0 = 128 by decide +kernel] at f2
      have f3 := rd_at (i := 1) (RQ.out.below hb5) (by decide +kernel)
      rw [show (dm.quantL 50 false).getD 1 0 = 13 by decide +kernel] at f3
      have f4 := rd_at (i := 2) hrZ (by decide +kernel)
      rw [show dm.zzL.getD 2 0 = 8 by decide +kernel] at f4
      have f5 := rd_at (i := 63) hrZ (by decide +kernel)
      rw [show dm.zzL.getD 63 0 = 63 by decide +kernel] at f5
      clear hv hrZ hb5 hg1 hl1 RF4 RI4 RQ B4
      go_wp2_with fail
      go_ret
      exact ⟨rfl, B5.out⟩
end Go.Proofs.Ytdpccgnmlfakfaa
