/- The walks of Quant, the program's and the reference's. -/
import Derived.Test.YtdpccgnmlfakfaaDct10
namespace Go.Proofs.Ytdpccgnmlfakfaa
open Go.RowKit

set_option maxRecDepth 100000 in
set_option maxHeartbeats 3200000 in
theorem quant_any (Q : Int) (ch : Bool) (w : World) : Calls Try.prog 16 #[.int .i64 Q, .bool ch] w fun e w' => AnsPost 64 (dm.quantL Q ch) (dm.quantE Q) w e w' := by
  by_cases hlo : Q < 1
  · have he : dm.quantE Q = 2 := if_pos (.inl hlo)
    rw [he]
    clear he
    go_enter Try.func16, Try.ntmps16
    go_wp2_with fail
    go_ret2
    exact ⟨.inl ⟨by decide, rfl⟩, Below.refl _ _⟩
  by_cases hhi : 100 < Q
  · have he : dm.quantE Q = 2 := if_pos (.inr hhi)
    rw [he]
    clear he
    go_enter Try.func16, Try.ntmps16
    go_wp2_with fail
    go_ret2
    exact ⟨.inl ⟨by decide, rfl⟩, Below.refl _ _⟩
  have he : dm.quantE Q = 0 := if_neg (by omega)
  rw [he]
  obtain ⟨hs0, hs1⟩ := dm.qs_range (q := Q) (by omega) (by omega)
  obtain ⟨i0, hi, hz0, hz1, hz2⟩ := info_parts infoInt0
  clear he
  have hmk := make64f
  by_cases h50 : Q < 50
  · obtain ⟨sv, hsv⟩ : ∃ sv, sv = dm.qs Q := ⟨_, rfl⟩
    have hsv' := hsv
    rw [dm.qs_low h50] at hsv'
    have hd1 : 5000 / Q = sv := hsv'.symm
    have hd2 : Int.tdiv 5000 Q = sv := by rw [Int.tdiv_eq_ediv_of_nonneg (by decide), hsv']
    rw [← hsv] at hs0 hs1
    have hq0 : ¬ Q = 0 := by omega
    clear hsv'
    cases ch with
    | false =>
      have HV : Hid (∀ k, dm.qv Q false k = dm.qc (((10 + 3 * ((k / 8 + k % 8 : Nat) : Int)) * sv + 50) / 100)) := Lib.hid (fun k => by unfold dm.qv; rw [← hsv]; rfl)
      clear hsv
      go_enter Try.func16, Try.ntmps16
      go_wp2_with fail
      go_loopg [28] 64 (fun gk s wr => ∃ k : Nat, k ≤ 64 ∧ gk = 64 - k ∧ s = .int .i64 k ∧ wr.heap[w.heap.size]? = some (.cells (ints (dm.partR (dm.qv Q false) k)) 3 (0, 0)) ∧ Below w.heap.size w wr)
      case atStart => exact ⟨0, by omega, rfl, rfl, by rw [dm.partR_zero]; exact heap_alloc_new _ _, (Below.refl _ _).alloc (Nat.le_refl _) _⟩
      case round =>
        obtain ⟨k, hk, hg, rfl, hx, hnx⟩ := hrel
        have Hg := Lib.hid hg
        have Hx := Lib.hid hx
        have Hnx := Lib.hid hnx
        clear hg hx hnx hmk
        by_cases hlt : k < 64
        · have hc := ints_cell Hx.out k (by rw [dm.partR_length]; omega)
          have hf := ints_free Hx.out k
          have hk64 : (k : Int) < 64 := by omega
          have HVk := Lib.hid (HV.out k)
          obtain ⟨bv, hbv⟩ : ∃ bv, bv = 10 + 3 * ((k / 8 + k % 8 : Nat) : Int) := ⟨_, rfl⟩
          have hb : 10 + 3 * ((k : Int) / 8 + (k : Int) % 8) = bv := by rw [hbv]; omega
          rw [← hbv] at HVk
          have hb0 : 0 ≤ bv := by omega
          have hb1 : bv ≤ 96 := by omega
          clear hbv
          obtain ⟨hp0, hp1⟩ := dm.prod_range hb0 hb1 hs0 hs1
          obtain ⟨x, hxx⟩ : ∃ x, x = (bv * sv + 50) / 100 := ⟨_, rfl⟩
          have hx1 : (bv * sv + 50) / 100 = x := hxx.symm
          have hx2 : Int.tdiv (bv * sv + 50) 100 = x := by rw [Int.tdiv_eq_ediv_of_nonneg (by omega), ← hxx]
          have hx3 : 0 ≤ x := by omega
          have hx4 : x ≤ 4801 := by omega
          rw [← hxx] at HVk
          clear hxx
          have HZ : Hid (∀ y, y = dm.qv Q false k → (wr.setCell ⟨w.heap.size, k, none⟩ (.int .i64 y)).heap[w.heap.size]? = some (.cells (ints (dm.partR (dm.qv Q false) (k + 1))) 3 (0, 0)) ∧ Below w.heap.size w (wr.setCell ⟨w.heap.size, k, none⟩ (.int .i64 y))) := Lib.hid (by
            intro y hy
            refine ⟨?_, Hnx.out.setCell (Nat.le_refl _) _⟩
            rw [ints_store Hx.out k y, hy, dm.partR_set])
          rcases dm.qc_cases x with ⟨h, e⟩ | ⟨h', h, e⟩ | ⟨h', h, e⟩
          · rw [e] at HVk
            clear e
            go_wp2_with fail
            obtain ⟨z0, z1⟩ := HZ.out 1 HVk.out.symm
            go_roundg (64 - (k + 1))
            case measure => have := Hg.out; omega
            case rel => exact ⟨k + 1, by omega, rfl, by go_num, z0, z1⟩
          · rw [e] at HVk
            clear e
            go_wp2_with fail
            obtain ⟨z0, z1⟩ := HZ.out 255 HVk.out.symm
            go_roundg (64 - (k + 1))
            case measure => have := Hg.out; omega
            case rel => exact ⟨k + 1, by omega, rfl, by go_num, z0, z1⟩
          · rw [e] at HVk
            clear e
            go_wp2_with fail
            obtain ⟨z0, z1⟩ := HZ.out x HVk.out.symm
            go_roundg (64 - (k + 1))
            case measure => have := Hg.out; omega
            case rel => exact ⟨k + 1, by omega, rfl, by go_num, z0, z1⟩
        · obtain rfl : k = 64 := by omega
          have HX : Hid (wr.heap[w.heap.size]? = some (.cells (ints (dm.quantL Q false)) 3 (0, 0))) := Lib.hid (by
            have := Hx.out
            rw [dm.partR_done] at this
            exact this)
          go_wp2_with fail
          go_ret2
          exact ⟨.inr ⟨rfl, _, rfl, fresh_cells HX.out (by simp [dm.quantL]) (Nat.le_refl _) (by decide)⟩, Hnx.out⟩
    | true =>
      have HV : Hid (∀ k, dm.qv Q true k = dm.qc (((12 + 6 * ((k / 8 + k % 8 : Nat) : Int)) * sv + 50) / 100)) := Lib.hid (fun k => by unfold dm.qv; rw [← hsv]; rfl)
      clear hsv
      go_enter Try.func16, Try.ntmps16
      go_wp2_with fail
      go_loopg [28] 64 (fun gk s wr => ∃ k : Nat, k ≤ 64 ∧ gk = 64 - k ∧ s = .int .i64 k ∧ wr.heap[w.heap.size]? = some (.cells (ints (dm.partR (dm.qv Q true) k)) 3 (0, 0)) ∧ Below w.heap.size w wr)
      case atStart => exact ⟨0, by omega, rfl, rfl, by rw [dm.partR_zero]; exact heap_alloc_new _ _, (Below.refl _ _).alloc (Nat.le_refl _) _⟩
      case round =>
        obtain ⟨k, hk, hg, rfl, hx, hnx⟩ := hrel
        have Hg := Lib.hid hg
        have Hx := Lib.hid hx
        have Hnx := Lib.hid hnx
        clear hg hx hnx hmk
        by_cases hlt : k < 64
        · have hc := ints_cell Hx.out k (by rw [dm.partR_length]; omega)
          have hf := ints_free Hx.out k
          have hk64 : (k : Int) < 64 := by omega
          have HVk := Lib.hid (HV.out k)
          obtain ⟨bv, hbv⟩ : ∃ bv, bv = 12 + 6 * ((k / 8 + k % 8 : Nat) : Int) := ⟨_, rfl⟩
          have hb : 12 + 6 * ((k : Int) / 8 + (k : Int) % 8) = bv := by rw [hbv]; omega
          rw [← hbv] at HVk
          have hb0 : 0 ≤ bv := by omega
          have hb1 : bv ≤ 96 := by omega
          clear hbv
          obtain ⟨hp0, hp1⟩ := dm.prod_range hb0 hb1 hs0 hs1
          obtain ⟨x, hxx⟩ : ∃ x, x = (bv * sv + 50) / 100 := ⟨_, rfl⟩
          have hx1 : (bv * sv + 50) / 100 = x := hxx.symm
          have hx2 : Int.tdiv (bv * sv + 50) 100 = x := by rw [Int.tdiv_eq_ediv_of_nonneg (by omega), ← hxx]
          have hx3 : 0 ≤ x := by omega
          have hx4 : x ≤ 4801 := by omega
          rw [← hxx] at HVk
          clear hxx
          have HZ : Hid (∀ y, y = dm.qv Q true k → (wr.setCell ⟨w.heap.size, k, none⟩ (.int .i64 y)).heap[w.heap.size]? = some (.cells (ints (dm.partR (dm.qv Q true) (k + 1))) 3 (0, 0)) ∧ Below w.heap.size w (wr.setCell ⟨w.heap.size, k, none⟩ (.int .i64 y))) := Lib.hid (by
            intro y hy
            refine ⟨?_, Hnx.out.setCell (Nat.le_refl _) _⟩
            rw [ints_store Hx.out k y, hy, dm.partR_set])
          rcases dm.qc_cases x with ⟨h, e⟩ | ⟨h', h, e⟩ | ⟨h', h, e⟩
          · rw [e] at HVk
            clear e
            go_wp2_with fail
            obtain ⟨z0, z1⟩ := HZ.out 1 HVk.out.symm
            go_roundg (64 - (k + 1))
            case measure => have := Hg.out; omega
            case rel => exact ⟨k + 1, by omega, rfl, by go_num, z0, z1⟩
          · rw [e] at HVk
            clear e
            go_wp2_with fail
            obtain ⟨z0, z1⟩ := HZ.out 255 HVk.out.symm
            go_roundg (64 - (k + 1))
            case measure => have := Hg.out; omega
            case rel => exact ⟨k + 1, by omega, rfl, by go_num, z0, z1⟩
          · rw [e] at HVk
            clear e
            go_wp2_with fail
            obtain ⟨z0, z1⟩ := HZ.out x HVk.out.symm
            go_roundg (64 - (k + 1))
            case measure => have := Hg.out; omega
            case rel => exact ⟨k + 1, by omega, rfl, by go_num, z0, z1⟩
        · obtain rfl : k = 64 := by omega
          have HX : Hid (wr.heap[w.heap.size]? = some (.cells (ints (dm.quantL Q true)) 3 (0, 0))) := Lib.hid (by
            have := Hx.out
            rw [dm.partR_done] at this
            exact this)
          go_wp2_with fail
          go_ret2
          exact ⟨.inr ⟨rfl, _, rfl, fresh_cells HX.out (by simp [dm.quantL]) (Nat.le_refl _) (by decide)⟩, Hnx.out⟩
  · obtain ⟨sv, hsv⟩ : ∃ sv, sv = dm.qs Q := ⟨_, rfl⟩
    have hsv' := hsv
    rw [dm.qs_high h50] at hsv'
    have hd1 : 200 - 2 * Q = sv := hsv'.symm
    rw [← hsv] at hs0 hs1
    clear hsv'
    cases ch with
    | false =>
      have HV : Hid (∀ k, dm.qv Q false k = dm.qc (((10 + 3 * ((k / 8 + k % 8 : Nat) : Int)) * sv + 50) / 100)) := Lib.hid (fun k => by unfold dm.qv; rw [← hsv]; rfl)
      clear hsv
      go_enter Try.func16, Try.ntmps16
      go_wp2_with fail
      go_loopg [28] 64 (fun gk s wr => ∃ k : Nat, k ≤ 64 ∧ gk = 64 - k ∧ s = .int .i64 k ∧ wr.heap[w.heap.size]? = some (.cells (ints (dm.partR (dm.qv Q false) k)) 3 (0, 0)) ∧ Below w.heap.size w wr)
      case atStart => exact ⟨0, by omega, rfl, rfl, by rw [dm.partR_zero]; exact heap_alloc_new _ _, (Below.refl _ _).alloc (Nat.le_refl _) _⟩
      case round =>
        obtain ⟨k, hk, hg, rfl, hx, hnx⟩ := hrel
        have Hg := Lib.hid hg
        have Hx := Lib.hid hx
        have Hnx := Lib.hid hnx
        clear hg hx hnx hmk
        by_cases hlt : k < 64
        · have hc := ints_cell Hx.out k (by rw [dm.partR_length]; omega)
          have hf := ints_free Hx.out k
          have hk64 : (k : Int) < 64 := by omega
          have HVk := Lib.hid (HV.out k)
          obtain ⟨bv, hbv⟩ : ∃ bv, bv = 10 + 3 * ((k / 8 + k % 8 : Nat) : Int) := ⟨_, rfl⟩
          have hb : 10 + 3 * ((k : Int) / 8 + (k : Int) % 8) = bv := by rw [hbv]; omega
          rw [← hbv] at HVk
          have hb0 : 0 ≤ bv := by omega
          have hb1 : bv ≤ 96 := by omega
          clear hbv
          obtain ⟨hp0, hp1⟩ := dm.prod_range hb0 hb1 hs0 hs1
          obtain ⟨x, hxx⟩ : ∃ x, x = (bv * sv + 50) / 100 := ⟨_, rfl⟩
          have hx1 : (bv * sv + 50) / 100 = x := hxx.symm
          have hx2 : Int.tdiv (bv * sv + 50) 100 = x := by rw [Int.tdiv_eq_ediv_of_nonneg (by omega), ← hxx]
          have hx3 : 0 ≤ x := by omega
          have hx4 : x ≤ 4801 := by omega
          rw [← hxx] at HVk
          clear hxx
          have HZ : Hid (∀ y, y = dm.qv Q false k → (wr.setCell ⟨w.heap.size, k, none⟩ (.int .i64 y)).heap[w.heap.size]? = some (.cells (ints (dm.partR (dm.qv Q false) (k + 1))) 3 (0, 0)) ∧ Below w.heap.size w (wr.setCell ⟨w.heap.size, k, none⟩ (.int .i64 y))) := Lib.hid (by
            intro y hy
            refine ⟨?_, Hnx.out.setCell (Nat.le_refl _) _⟩
            rw [ints_store Hx.out k y, hy, dm.partR_set])
          rcases dm.qc_cases x with ⟨h, e⟩ | ⟨h', h, e⟩ | ⟨h', h, e⟩
          · rw [e] at HVk
            clear e
            go_wp2_with fail
            obtain ⟨z0, z1⟩ := HZ.out 1 HVk.out.symm
            go_roundg (64 - (k + 1))
            case measure => have := Hg.out; omega
            case rel => exact ⟨k + 1, by omega, rfl, by go_num, z0, z1⟩
          · rw [e] at HVk
            clear e
            go_wp2_with fail
            obtain ⟨z0, z1⟩ := HZ.out 255 HVk.out.symm
            go_roundg (64 - (k + 1))
            case measure => have := Hg.out; omega
            case rel => exact ⟨k + 1, by omega, rfl, by go_num, z0, z1⟩
          · rw [e] at HVk
            clear e
            go_wp2_with fail
            obtain ⟨z0, z1⟩ := HZ.out x HVk.out.symm
            go_roundg (64 - (k + 1))
            case measure => have := Hg.out; omega
            case rel => exact ⟨k + 1, by omega, rfl, by go_num, z0, z1⟩
        · obtain rfl : k = 64 := by omega
          have HX : Hid (wr.heap[w.heap.size]? = some (.cells (ints (dm.quantL Q false)) 3 (0, 0))) := Lib.hid (by
            have := Hx.out
            rw [dm.partR_done] at this
            exact this)
          go_wp2_with fail
          go_ret2
          exact ⟨.inr ⟨rfl, _, rfl, fresh_cells HX.out (by simp [dm.quantL]) (Nat.le_refl _) (by decide)⟩, Hnx.out⟩
    | true =>
      have HV : Hid (∀ k, dm.qv Q true k = dm.qc (((12 + 6 * ((k / 8 + k % 8 : Nat) : Int)) * sv + 50) / 100)) := Lib.hid (fun k => by unfold dm.qv; rw [← hsv]; rfl)
      clear hsv
      go_enter Try.func16, Try.ntmps16
      go_wp2_with fail
      go_loopg [28] 64 (fun gk s wr => ∃ k : Nat, k ≤ 64 ∧ gk = 64 - k ∧ s = .int .i64 k ∧ wr.heap[w.heap.size]? = some (.cells (ints (dm.partR (dm.qv Q true) k)) 3 (0, 0)) ∧ Below w.heap.size w wr)
      case atStart => exact ⟨0, by omega, rfl, rfl, by rw [dm.partR_zero]; exact heap_alloc_new _ _, (Below.refl _ _).alloc (Nat.le_refl _) _⟩
      case round =>
        obtain ⟨k, hk, hg, rfl, hx, hnx⟩ := hrel
        have Hg := Lib.hid hg
        have Hx := Lib.hid hx
        have Hnx := Lib.hid hnx
        clear hg hx hnx hmk
        by_cases hlt : k < 64
        · have hc := ints_cell Hx.out k (by rw [dm.partR_length]; omega)
          have hf := ints_free Hx.out k
          have hk64 : (k : Int) < 64 := by omega
          have HVk := Lib.hid (HV.out k)
          obtain ⟨bv, hbv⟩ : ∃ bv, bv = 12 + 6 * ((k / 8 + k % 8 : Nat) : Int) := ⟨_, rfl⟩
          have hb : 12 + 6 * ((k : Int) / 8 + (k : Int) % 8) = bv := by rw [hbv]; omega
          rw [← hbv] at HVk
          have hb0 : 0 ≤ bv := by omega
          have hb1 : bv ≤ 96 := by omega
          clear hbv
          obtain ⟨hp0, hp1⟩ := dm.prod_range hb0 hb1 hs0 hs1
          obtain ⟨x, hxx⟩ : ∃ x, x = (bv * sv + 50) / 100 := ⟨_, rfl⟩
          have hx1 : (bv * sv + 50) / 100 = x := hxx.symm
          have hx2 : Int.tdiv (bv * sv + 50) 100 = x := by rw [Int.tdiv_eq_ediv_of_nonneg (by omega), ← hxx]
          have hx3 : 0 ≤ x := by omega
          have hx4 : x ≤ 4801 := by omega
          rw [← hxx] at HVk
          clear hxx
          have HZ : Hid (∀ y, y = dm.qv Q true k → (wr.setCell ⟨w.heap.size, k, none⟩ (.int .i64 y)).heap[w.heap.size]? = some (.cells (ints (dm.partR (dm.qv Q true) (k + 1))) 3 (0, 0)) ∧ Below w.heap.size w (wr.setCell ⟨w.heap.size, k, none⟩ (.int .i64 y))) := Lib.hid (by
            intro y hy
            refine ⟨?_, Hnx.out.setCell (Nat.le_refl _) _⟩
            rw [ints_store Hx.out k y, hy, dm.partR_set])
          rcases dm.qc_cases x with ⟨h, e⟩ | ⟨h', h, e⟩ | ⟨h', h, e⟩
          · rw [e] at HVk
            clear e
            go_wp2_with fail
            obtain ⟨z0, z1⟩ := HZ.out 1 HVk.out.symm
            go_roundg (64 - (k + 1))
            case measure => have := Hg.out; omega
            case rel => exact ⟨k + 1, by omega, rfl, by go_num, z0, z1⟩
          · rw [e] at HVk
            clear e
            go_wp2_with fail
            obtain ⟨z0, z1⟩ := HZ.out 255 HVk.out.symm
            go_roundg (64 - (k + 1))
            case measure => have := Hg.out; omega
            case rel => exact ⟨k + 1, by omega, rfl, by go_num, z0, z1⟩
          · rw [e] at HVk
            clear e
            go_wp2_with fail
            obtain ⟨z0, z1⟩ := HZ.out x HVk.out.symm
            go_roundg (64 - (k + 1))
            case measure => have := Hg.out; omega
            case rel => exact ⟨k + 1, by omega, rfl, by go_num, z0, z1⟩
        · obtain rfl : k = 64 := by omega
          have HX : Hid (wr.heap[w.heap.size]? = some (.cells (ints (dm.quantL Q true)) 3 (0, 0))) := Lib.hid (by
            have := Hx.out
            rw [dm.partR_done] at this
            exact this)
          go_wp2_with fail
          go_ret2
          exact ⟨.inr ⟨rfl, _, rfl, fresh_cells HX.out (by simp [dm.quantL]) (Nat.le_refl _) (by decide)⟩, Hnx.out⟩

set_option maxRecDepth 100000 in
set_option maxHeartbeats 3200000 in
theorem refQuant_any (Q : Int) (ch : Bool) (w : World) : Calls Try.prog 17 #[.int .i64 Q, .bool ch] w fun e w' => AnsPost 64 (dm.quantL Q ch) (dm.quantE Q) w e w' := by
  by_cases hlo : Q < 1
  · have he : dm.quantE Q = 2 := if_pos (.inl hlo)
    rw [he]
    clear he
    go_enter Try.func17, Try.ntmps17
    go_wp2_with fail
    go_ret2
    exact ⟨.inl ⟨by decide, rfl⟩, Below.refl _ _⟩
  by_cases hhi : 100 < Q
  · have he : dm.quantE Q = 2 := if_pos (.inr hhi)
    rw [he]
    clear he
    go_enter Try.func17, Try.ntmps17
    go_wp2_with fail
    go_ret2
    exact ⟨.inl ⟨by decide, rfl⟩, Below.refl _ _⟩
  have he : dm.quantE Q = 0 := if_neg (by omega)
  rw [he]
  obtain ⟨hs0, hs1⟩ := dm.qs_range (q := Q) (by omega) (by omega)
  obtain ⟨i0, hi, hz0, hz1, hz2⟩ := info_parts infoInt0
  clear he
  by_cases h50 : Q < 50
  · obtain ⟨sv, hsv⟩ : ∃ sv, sv = dm.qs Q := ⟨_, rfl⟩
    have hsv' := hsv
    rw [dm.qs_low h50] at hsv'
    have hd1 : 5000 / Q = sv := hsv'.symm
    have hd2 : Int.tdiv 5000 Q = sv := by rw [Int.tdiv_eq_ediv_of_nonneg (by decide), hsv']
    rw [← hsv] at hs0 hs1
    have hq0 : ¬ Q = 0 := by omega
    clear hsv'
    cases ch with
    | false =>
      have HV : Hid (∀ k, dm.qv Q false k = dm.qc (((10 + 3 * ((k / 8 + k % 8 : Nat) : Int)) * sv + 50) / 100)) := Lib.hid (fun k => by unfold dm.qv; rw [← hsv]; rfl)
      clear hsv
      go_enter Try.func17, Try.ntmps17
      go_wp2_with fail
      go_loopg [7, 8] 8 (fun gk v s wr => ∃ A : Nat, A ≤ 8 ∧ gk = 8 - A ∧ s = .int .i64 A ∧ wr.ownsRow w.heap.size 3 1 v (A * 8) (((dm.quantL Q false).take (A * 8)).map (Value.int .i64)) ∧ Below w.heap.size w wr)
      case atStart => exact ⟨0, by omega, rfl, rfl, World.ownsRow_nil _ _ _ _, Below.refl _ _⟩
      case round =>
        obtain ⟨A, hA, hg, rfl, hown, hnx⟩ := hrel
        have HgA := Lib.hid hg
        have Hown := Lib.hid hown
        have Hnx := Lib.hid hnx
        clear hg hown hnx
        by_cases hltA : A < 8
        · have hA8 : (A : Int) < 8 := by omega
          go_wp2_with fail
          go_loopg [7, 9] 8 (fun gk v s wr => ∃ B : Nat, B ≤ 8 ∧ gk = 8 - B ∧ s = .int .i64 B ∧ wr.ownsRow w.heap.size 3 1 v (A * 8 + B) (((dm.quantL Q false).take (A * 8 + B)).map (Value.int .i64)) ∧ Below w.heap.size w wr)
          case atStart => exact ⟨0, by omega, rfl, rfl, Hown.out, Hnx.out⟩
          case round =>
            obtain ⟨B, hB, hg, rfl, hown, hnx⟩ := hrel
            have HgB := Lib.hid hg
            clear Hown Hnx
            have Hown := Lib.hid hown
            have Hnx := Lib.hid hnx
            clear hg hown hnx
            by_cases hltB : B < 8
            · have hB8 : (B : Int) < 8 := by omega
              have HN : Hid ((dm.quantL Q false).take (A * 8 + B) ++ [dm.qv Q false (A * 8 + B)] = (dm.quantL Q false).take (A * 8 + B + 1)) := Lib.hid (dm.take_range (f := dm.qv Q false) (j := A * 8 + B) (by omega))
              have HVk := HV.out (A * 8 + B)
              obtain ⟨bv, hbv⟩ : ∃ bv, bv = 10 + 3 * (((A * 8 + B) / 8 + (A * 8 + B) % 8 : Nat) : Int) := ⟨_, rfl⟩
              have hb : 10 + 3 * ((B : Int) + (A : Int)) = bv := by rw [hbv]; omega
              rw [← hbv] at HVk
              have hb0 : 0 ≤ bv := by omega
              have hb1 : bv ≤ 96 := by omega
              clear hbv
              obtain ⟨hp0, hp1⟩ := dm.prod_range hb0 hb1 hs0 hs1
              obtain ⟨x, hxx⟩ : ∃ x, x = (bv * sv + 50) / 100 := ⟨_, rfl⟩
              have hx1 : (bv * sv + 50) / 100 = x := hxx.symm
              have hx2 : Int.tdiv (bv * sv + 50) 100 = x := by rw [Int.tdiv_eq_ediv_of_nonneg (by omega), ← hxx]
              have hx3 : 0 ≤ x := by omega
              have hx4 : x ≤ 4801 := by omega
              rw [← hxx] at HVk
              rw [HVk] at HN
              clear hxx HVk
              rcases dm.qc_cases x with ⟨h, e⟩ | ⟨h', h, e⟩ | ⟨h', h, e⟩
              · rw [e] at HN
                clear e
                have hsz := Hnx.out.size
                have HO := Lib.hid (Hown.out.alloc (.cells #[.int .i64 (1)] 3))
                go_wp2_with (at_builtin; go_must (refine wpList_append_own _ rfl _ _ 22 rfl w.heap.size 3 i0 (.int .i64 0) 1 8 Try.underlying22 hi hz0 hz1 hz2 rfl (by decide) _ (A * 8 + B) _ rfl HO.out ⟨wr.heap.size, 0, none⟩ 1 1 [.int .i64 (1)] rfl rfl (cell_one_new _ _ _) (ints_oneCell .i64 [(1)]) (by unfold maxLen; omega) (by omega) (by simp; omega) ?_; intro v' w3 hown hg hnil; have Hown' := Lib.hid hown; have Hgr := Lib.hid hg; clear hown hg hnil))
                go_roundg (8 - (B + 1))
                case measure => have := HgB.out; omega
                case rel =>
                  refine ⟨B + 1, by omega, rfl, by go_num, ?_, ?_⟩
                  · have := Hown'.out
                    rw [← List.map_singleton, ← List.map_append, HN.out] at this
                    exact this
                  · refine (Hnx.out.alloc hsz _).grown Hgr.out (by simp; omega) ?_
                    intro j hj
                    exact (Hown.out.lt j hj).1
              · rw [e] at HN
                clear e
                have hsz := Hnx.out.size
                have HO := Lib.hid (Hown.out.alloc (.cells #[.int .i64 (255)] 3))
                go_wp2_with (at_builtin; go_must (refine wpList_append_own _ rfl _ _ 22 rfl w.heap.size 3 i0 (.int .i64 0) 1 8 Try.underlying22 hi hz0 hz1 hz2 rfl (by decide) _ (A * 8 + B) _ rfl HO.out ⟨wr.heap.size, 0, none⟩ 1 1 [.int .i64 (255)] rfl rfl (cell_one_new _ _ _) (ints_oneCell .i64 [(255)]) (by unfold maxLen; omega) (by omega) (by simp; omega) ?_; intro v' w3 hown hg hnil; have Hown' := Lib.hid hown; have Hgr := Lib.hid hg; clear hown hg hnil))
                go_roundg (8 - (B + 1))
                case measure => have := HgB.out; omega
                case rel =>
                  refine ⟨B + 1, by omega, rfl, by go_num, ?_, ?_⟩
                  · have := Hown'.out
                    rw [← List.map_singleton, ← List.map_append, HN.out] at this
                    exact this
                  · refine (Hnx.out.alloc hsz _).grown Hgr.out (by simp; omega) ?_
                    intro j hj
                    exact (Hown.out.lt j hj).1
              · rw [e] at HN
                clear e
                have hsz := Hnx.out.size
                have HO := Lib.hid (Hown.out.alloc (.cells #[.int .i64 (x)] 3))
                go_wp2_with (at_builtin; go_must (refine wpList_append_own _ rfl _ _ 22 rfl w.heap.size 3 i0 (.int .i64 0) 1 8 Try.underlying22 hi hz0 hz1 hz2 rfl (by decide) _ (A * 8 + B) _ rfl HO.out ⟨wr.heap.size, 0, none⟩ 1 1 [.int .i64 (x)] rfl rfl (cell_one_new _ _ _) (ints_oneCell .i64 [(x)]) (by unfold maxLen; omega) (by omega) (by simp; omega) ?_; intro v' w3 hown hg hnil; have Hown' := Lib.hid hown; have Hgr := Lib.hid hg; clear hown hg hnil))
                go_roundg (8 - (B + 1))
                case measure => have := HgB.out; omega
                case rel =>
                  refine ⟨B + 1, by omega, rfl, by go_num, ?_, ?_⟩
                  · have := Hown'.out
                    rw [← List.map_singleton, ← List.map_append, HN.out] at this
                    exact this
                  · refine (Hnx.out.alloc hsz _).grown Hgr.out (by simp; omega) ?_
                    intro j hj
                    exact (Hown.out.lt j hj).1
            · obtain rfl : B = 8 := by omega
              go_wp2_with fail
              go_roundg (8 - (A + 1))
              case measure => have := HgA.out; omega
              case rel => exact ⟨A + 1, by omega, rfl, by go_num, by have := Hown.out; rw [show A * 8 + 8 = (A + 1) * 8 by omega] at this; exact this, Hnx.out⟩
        · obtain rfl : A = 8 := by omega
          have HZ : Hid (wr.ownsRow w.heap.size 3 1 _ 64 ((dm.quantL Q false).map (Value.int .i64))) := Lib.hid Hown.out
          go_wp2_with fail
          go_ret2
          exact ⟨.inr ⟨rfl, _, rfl, fresh_own HZ.out (by decide)⟩, Hnx.out⟩
    | true =>
      have HV : Hid (∀ k, dm.qv Q true k = dm.qc (((12 + 6 * ((k / 8 + k % 8 : Nat) : Int)) * sv + 50) / 100)) := Lib.hid (fun k => by unfold dm.qv; rw [← hsv]; rfl)
      clear hsv
      go_enter Try.func17, Try.ntmps17
      go_wp2_with fail
      go_loopg [7, 8] 8 (fun gk v s wr => ∃ A : Nat, A ≤ 8 ∧ gk = 8 - A ∧ s = .int .i64 A ∧ wr.ownsRow w.heap.size 3 1 v (A * 8) (((dm.quantL Q true).take (A * 8)).map (Value.int .i64)) ∧ Below w.heap.size w wr)
      case atStart => exact ⟨0, by omega, rfl, rfl, World.ownsRow_nil _ _ _ _, Below.refl _ _⟩
      case round =>
        obtain ⟨A, hA, hg, rfl, hown, hnx⟩ := hrel
        have HgA := Lib.hid hg
        have Hown := Lib.hid hown
        have Hnx := Lib.hid hnx
        clear hg hown hnx
        by_cases hltA : A < 8
        · have hA8 : (A : Int) < 8 := by omega
          go_wp2_with fail
          go_loopg [7, 9] 8 (fun gk v s wr => ∃ B : Nat, B ≤ 8 ∧ gk = 8 - B ∧ s = .int .i64 B ∧ wr.ownsRow w.heap.size 3 1 v (A * 8 + B) (((dm.quantL Q true).take (A * 8 + B)).map (Value.int .i64)) ∧ Below w.heap.size w wr)
          case atStart => exact ⟨0, by omega, rfl, rfl, Hown.out, Hnx.out⟩
          case round =>
            obtain ⟨B, hB, hg, rfl, hown, hnx⟩ := hrel
            have HgB := Lib.hid hg
            clear Hown Hnx
            have Hown := Lib.hid hown
            have Hnx := Lib.hid hnx
            clear hg hown hnx
            by_cases hltB : B < 8
            · have hB8 : (B : Int) < 8 := by omega
              have HN : Hid ((dm.quantL Q true).take (A * 8 + B) ++ [dm.qv Q true (A * 8 + B)] = (dm.quantL Q true).take (A * 8 + B + 1)) := Lib.hid (dm.take_range (f := dm.qv Q true) (j := A * 8 + B) (by omega))
              have HVk := HV.out (A * 8 + B)
              obtain ⟨bv, hbv⟩ : ∃ bv, bv = 12 + 6 * (((A * 8 + B) / 8 + (A * 8 + B) % 8 : Nat) : Int) := ⟨_, rfl⟩
              have hb : 12 + 6 * ((B : Int) + (A : Int)) = bv := by rw [hbv]; omega
              rw [← hbv] at HVk
              have hb0 : 0 ≤ bv := by omega
              have hb1 : bv ≤ 96 := by omega
              clear hbv
              obtain ⟨hp0, hp1⟩ := dm.prod_range hb0 hb1 hs0 hs1
              obtain ⟨x, hxx⟩ : ∃ x, x = (bv * sv + 50) / 100 := ⟨_, rfl⟩
              have hx1 : (bv * sv + 50) / 100 = x := hxx.symm
              have hx2 : Int.tdiv (bv * sv + 50) 100 = x := by rw [Int.tdiv_eq_ediv_of_nonneg (by omega), ← hxx]
              have hx3 : 0 ≤ x := by omega
              have hx4 : x ≤ 4801 := by omega
              rw [← hxx] at HVk
              rw [HVk] at HN
              clear hxx HVk
              rcases dm.qc_cases x with ⟨h, e⟩ | ⟨h', h, e⟩ | ⟨h', h, e⟩
              · rw [e] at HN
                clear e
                have hsz := Hnx.out.size
                have HO := Lib.hid (Hown.out.alloc (.cells #[.int .i64 (1)] 3))
                go_wp2_with (at_builtin; go_must (refine wpList_append_own _ rfl _ _ 22 rfl w.heap.size 3 i0 (.int .i64 0) 1 8 Try.underlying22 hi hz0 hz1 hz2 rfl (by decide) _ (A * 8 + B) _ rfl HO.out ⟨wr.heap.size, 0, none⟩ 1 1 [.int .i64 (1)] rfl rfl (cell_one_new _ _ _) (ints_oneCell .i64 [(1)]) (by unfold maxLen; omega) (by omega) (by simp; omega) ?_; intro v' w3 hown hg hnil; have Hown' := Lib.hid hown; have Hgr := Lib.hid hg; clear hown hg hnil))
                go_roundg (8 - (B + 1))
                case measure => have := HgB.out; omega
                case rel =>
                  refine ⟨B + 1, by omega, rfl, by go_num, ?_, ?_⟩
                  · have := Hown'.out
                    rw [← List.map_singleton, ← List.map_append, HN.out] at this
                    exact this
                  · refine (Hnx.out.alloc hsz _).grown Hgr.out (by simp; omega) ?_
                    intro j hj
                    exact (Hown.out.lt j hj).1
              · rw [e] at HN
                clear e
                have hsz := Hnx.out.size
                have HO := Lib.hid (Hown.out.alloc (.cells #[.int .i64 (255)] 3))
                go_wp2_with (at_builtin; go_must (refine wpList_append_own _ rfl _ _ 22 rfl w.heap.size 3 i0 (.int .i64 0) 1 8 Try.underlying22 hi hz0 hz1 hz2 rfl (by decide) _ (A * 8 + B) _ rfl HO.out ⟨wr.heap.size, 0, none⟩ 1 1 [.int .i64 (255)] rfl rfl (cell_one_new _ _ _) (ints_oneCell .i64 [(255)]) (by unfold maxLen; omega) (by omega) (by simp; omega) ?_; intro v' w3 hown hg hnil; have Hown' := Lib.hid hown; have Hgr := Lib.hid hg; clear hown hg hnil))
                go_roundg (8 - (B + 1))
                case measure => have := HgB.out; omega
                case rel =>
                  refine ⟨B + 1, by omega, rfl, by go_num, ?_, ?_⟩
                  · have := Hown'.out
                    rw [← List.map_singleton, ← List.map_append, HN.out] at this
                    exact this
                  · refine (Hnx.out.alloc hsz _).grown Hgr.out (by simp; omega) ?_
                    intro j hj
                    exact (Hown.out.lt j hj).1
              · rw [e] at HN
                clear e
                have hsz := Hnx.out.size
                have HO := Lib.hid (Hown.out.alloc (.cells #[.int .i64 (x)] 3))
                go_wp2_with (at_builtin; go_must (refine wpList_append_own _ rfl _ _ 22 rfl w.heap.size 3 i0 (.int .i64 0) 1 8 Try.underlying22 hi hz0 hz1 hz2 rfl (by decide) _ (A * 8 + B) _ rfl HO.out ⟨wr.heap.size, 0, none⟩ 1 1 [.int .i64 (x)] rfl rfl (cell_one_new _ _ _) (ints_oneCell .i64 [(x)]) (by unfold maxLen; omega) (by omega) (by simp; omega) ?_; intro v' w3 hown hg hnil; have Hown' := Lib.hid hown; have Hgr := Lib.hid hg; clear hown hg hnil))
                go_roundg (8 - (B + 1))
                case measure => have := HgB.out; omega
                case rel =>
                  refine ⟨B + 1, by omega, rfl, by go_num, ?_, ?_⟩
                  · have := Hown'.out
                    rw [← List.map_singleton, ← List.map_append, HN.out] at this
                    exact this
                  · refine (Hnx.out.alloc hsz _).grown Hgr.out (by simp; omega) ?_
                    intro j hj
                    exact (Hown.out.lt j hj).1
            · obtain rfl : B = 8 := by omega
              go_wp2_with fail
              go_roundg (8 - (A + 1))
              case measure => have := HgA.out; omega
              case rel => exact ⟨A + 1, by omega, rfl, by go_num, by have := Hown.out; rw [show A * 8 + 8 = (A + 1) * 8 by omega] at this; exact this, Hnx.out⟩
        · obtain rfl : A = 8 := by omega
          have HZ : Hid (wr.ownsRow w.heap.size 3 1 _ 64 ((dm.quantL Q true).map (Value.int .i64))) := Lib.hid Hown.out
          go_wp2_with fail
          go_ret2
          exact ⟨.inr ⟨rfl, _, rfl, fresh_own HZ.out (by decide)⟩, Hnx.out⟩
  · obtain ⟨sv, hsv⟩ : ∃ sv, sv = dm.qs Q := ⟨_, rfl⟩
    have hsv' := hsv
    rw [dm.qs_high h50] at hsv'
    have hd1 : 200 - 2 * Q = sv := hsv'.symm
    rw [← hsv] at hs0 hs1
    clear hsv'
    cases ch with
    | false =>
      have HV : Hid (∀ k, dm.qv Q false k = dm.qc (((10 + 3 * ((k / 8 + k % 8 : Nat) : Int)) * sv + 50) / 100)) := Lib.hid (fun k => by unfold dm.qv; rw [← hsv]; rfl)
      clear hsv
      go_enter Try.func17, Try.ntmps17
      go_wp2_with fail
      go_loopg [7, 8] 8 (fun gk v s wr => ∃ A : Nat, A ≤ 8 ∧ gk = 8 - A ∧ s = .int .i64 A ∧ wr.ownsRow w.heap.size 3 1 v (A * 8) (((dm.quantL Q false).take (A * 8)).map (Value.int .i64)) ∧ Below w.heap.size w wr)
      case atStart => exact ⟨0, by omega, rfl, rfl, World.ownsRow_nil _ _ _ _, Below.refl _ _⟩
      case round =>
        obtain ⟨A, hA, hg, rfl, hown, hnx⟩ := hrel
        have HgA := Lib.hid hg
        have Hown := Lib.hid hown
        have Hnx := Lib.hid hnx
        clear hg hown hnx
        by_cases hltA : A < 8
        · have hA8 : (A : Int) < 8 := by omega
          go_wp2_with fail
          go_loopg [7, 9] 8 (fun gk v s wr => ∃ B : Nat, B ≤ 8 ∧ gk = 8 - B ∧ s = .int .i64 B ∧ wr.ownsRow w.heap.size 3 1 v (A * 8 + B) (((dm.quantL Q false).take (A * 8 + B)).map (Value.int .i64)) ∧ Below w.heap.size w wr)
          case atStart => exact ⟨0, by omega, rfl, rfl, Hown.out, Hnx.out⟩
          case round =>
            obtain ⟨B, hB, hg, rfl, hown, hnx⟩ := hrel
            have HgB := Lib.hid hg
            clear Hown Hnx
            have Hown := Lib.hid hown
            have Hnx := Lib.hid hnx
            clear hg hown hnx
            by_cases hltB : B < 8
            · have hB8 : (B : Int) < 8 := by omega
              have HN : Hid ((dm.quantL Q false).take (A * 8 + B) ++ [dm.qv Q false (A * 8 + B)] = (dm.quantL Q false).take (A * 8 + B + 1)) := Lib.hid (dm.take_range (f := dm.qv Q false) (j := A * 8 + B) (by omega))
              have HVk := HV.out (A * 8 + B)
              obtain ⟨bv, hbv⟩ : ∃ bv, bv = 10 + 3 * (((A * 8 + B) / 8 + (A * 8 + B) % 8 : Nat) : Int) := ⟨_, rfl⟩
              have hb : 10 + 3 * ((B : Int) + (A : Int)) = bv := by rw [hbv]; omega
              rw [← hbv] at HVk
              have hb0 : 0 ≤ bv := by omega
              have hb1 : bv ≤ 96 := by omega
              clear hbv
              obtain ⟨hp0, hp1⟩ := dm.prod_range hb0 hb1 hs0 hs1
              obtain ⟨x, hxx⟩ : ∃ x, x = (bv * sv + 50) / 100 := ⟨_, rfl⟩
              have hx1 : (bv * sv + 50) / 100 = x := hxx.symm
              have hx2 : Int.tdiv (bv * sv + 50) 100 = x := by rw [Int.tdiv_eq_ediv_of_nonneg (by omega), ← hxx]
              have hx3 : 0 ≤ x := by omega
              have hx4 : x ≤ 4801 := by omega
              rw [← hxx] at HVk
              rw [HVk] at HN
              clear hxx HVk
              rcases dm.qc_cases x with ⟨h, e⟩ | ⟨h', h, e⟩ | ⟨h', h, e⟩
              · rw [e] at HN
                clear e
                have hsz := Hnx.out.size
                have HO := Lib.hid (Hown.out.alloc (.cells #[.int .i64 (1)] 3))
                go_wp2_with (at_builtin; go_must (refine wpList_append_own _ rfl _ _ 22 rfl w.heap.size 3 i0 (.int .i64 0) 1 8 Try.underlying22 hi hz0 hz1 hz2 rfl (by decide) _ (A * 8 + B) _ rfl HO.out ⟨wr.heap.size, 0, none⟩ 1 1 [.int .i64 (1)] rfl rfl (cell_one_new _ _ _) (ints_oneCell .i64 [(1)]) (by unfold maxLen; omega) (by omega) (by simp; omega) ?_; intro v' w3 hown hg hnil; have Hown' := Lib.hid hown; have Hgr := Lib.hid hg; clear hown hg hnil))
                go_roundg (8 - (B + 1))
                case measure => have := HgB.out; omega
                case rel =>
                  refine ⟨B + 1, by omega, rfl, by go_num, ?_, ?_⟩
                  · have := Hown'.out
                    rw [← List.map_singleton, ← List.map_append, HN.out] at this
                    exact this
                  · refine (Hnx.out.alloc hsz _).grown Hgr.out (by simp; omega) ?_
                    intro j hj
                    exact (Hown.out.lt j hj).1
              · rw [e] at HN
                clear e
                have hsz := Hnx.out.size
                have HO := Lib.hid (Hown.out.alloc (.cells #[.int .i64 (255)] 3))
                go_wp2_with (at_builtin; go_must (refine wpList_append_own _ rfl _ _ 22 rfl w.heap.size 3 i0 (.int .i64 0) 1 8 Try.underlying22 hi hz0 hz1 hz2 rfl (by decide) _ (A * 8 + B) _ rfl HO.out ⟨wr.heap.size, 0, none⟩ 1 1 [.int .i64 (255)] rfl rfl (cell_one_new _ _ _) (ints_oneCell .i64 [(255)]) (by unfold maxLen; omega) (by omega) (by simp; omega) ?_; intro v' w3 hown hg hnil; have Hown' := Lib.hid hown; have Hgr := Lib.hid hg; clear hown hg hnil))
                go_roundg (8 - (B + 1))
                case measure => have := HgB.out; omega
                case rel =>
                  refine ⟨B + 1, by omega, rfl, by go_num, ?_, ?_⟩
                  · have := Hown'.out
                    rw [← List.map_singleton, ← List.map_append, HN.out] at this
                    exact this
                  · refine (Hnx.out.alloc hsz _).grown Hgr.out (by simp; omega) ?_
                    intro j hj
                    exact (Hown.out.lt j hj).1
              · rw [e] at HN
                clear e
                have hsz := Hnx.out.size
                have HO := Lib.hid (Hown.out.alloc (.cells #[.int .i64 (x)] 3))
                go_wp2_with (at_builtin; go_must (refine wpList_append_own _ rfl _ _ 22 rfl w.heap.size 3 i0 (.int .i64 0) 1 8 Try.underlying22 hi hz0 hz1 hz2 rfl (by decide) _ (A * 8 + B) _ rfl HO.out ⟨wr.heap.size, 0, none⟩ 1 1 [.int .i64 (x)] rfl rfl (cell_one_new _ _ _) (ints_oneCell .i64 [(x)]) (by unfold maxLen; omega) (by omega) (by simp; omega) ?_; intro v' w3 hown hg hnil; have Hown' := Lib.hid hown; have Hgr := Lib.hid hg; clear hown hg hnil))
                go_roundg (8 - (B + 1))
                case measure => have := HgB.out; omega
                case rel =>
                  refine ⟨B + 1, by omega, rfl, by go_num, ?_, ?_⟩
                  · have := Hown'.out
                    rw [← List.map_singleton, ← List.map_append, HN.out] at this
                    exact this
                  · refine (Hnx.out.alloc hsz _).grown Hgr.out (by simp; omega) ?_
                    intro j hj
                    exact (Hown.out.lt j hj).1
            · obtain rfl : B = 8 := by omega
              go_wp2_with fail
              go_roundg (8 - (A + 1))
              case measure => have := HgA.out; omega
              case rel => exact ⟨A + 1, by omega, rfl, by go_num, by have := Hown.out; rw [show A * 8 + 8 = (A + 1) * 8 by omega] at this; exact this, Hnx.out⟩
        · obtain rfl : A = 8 := by omega
          have HZ : Hid (wr.ownsRow w.heap.size 3 1 _ 64 ((dm.quantL Q false).map (Value.int .i64))) := Lib.hid Hown.out
          go_wp2_with fail
          go_ret2
          exact ⟨.inr ⟨rfl, _, rfl, fresh_own HZ.out (by decide)⟩, Hnx.out⟩
    | true =>
      have HV : Hid (∀ k, dm.qv Q true k = dm.qc (((12 + 6 * ((k / 8 + k % 8 : Nat) : Int)) * sv + 50) / 100)) := Lib.hid (fun k => by unfold dm.qv; rw [← hsv]; rfl)
      clear hsv
      go_enter Try.func17, Try.ntmps17
      go_wp2_with fail
      go_loopg [7, 8] 8 (fun gk v s wr => ∃ A : Nat, A ≤ 8 ∧ gk = 8 - A ∧ s = .int .i64 A ∧ wr.ownsRow w.heap.size 3 1 v (A * 8) (((dm.quantL Q true).take (A * 8)).map (Value.int .i64)) ∧ Below w.heap.size w wr)
      case atStart => exact ⟨0, by omega, rfl, rfl, World.ownsRow_nil _ _ _ _, Below.refl _ _⟩
      case round =>
        obtain ⟨A, hA, hg, rfl, hown, hnx⟩ := hrel
        have HgA := Lib.hid hg
        have Hown := Lib.hid hown
        have Hnx := Lib.hid hnx
        clear hg hown hnx
        by_cases hltA : A < 8
        · have hA8 : (A : Int) < 8 := by omega
          go_wp2_with fail
          go_loopg [7, 9] 8 (fun gk v s wr => ∃ B : Nat, B ≤ 8 ∧ gk = 8 - B ∧ s = .int .i64 B ∧ wr.ownsRow w.heap.size 3 1 v (A * 8 + B) (((dm.quantL Q true).take (A * 8 + B)).map (Value.int .i64)) ∧ Below w.heap.size w wr)
          case atStart => exact ⟨0, by omega, rfl, rfl, Hown.out, Hnx.out⟩
          case round =>
            obtain ⟨B, hB, hg, rfl, hown, hnx⟩ := hrel
            have HgB := Lib.hid hg
            clear Hown Hnx
            have Hown := Lib.hid hown
            have Hnx := Lib.hid hnx
            clear hg hown hnx
            by_cases hltB : B < 8
            · have hB8 : (B : Int) < 8 := by omega
              have HN : Hid ((dm.quantL Q true).take (A * 8 + B) ++ [dm.qv Q true (A * 8 + B)] = (dm.quantL Q true).take (A * 8 + B + 1)) := Lib.hid (dm.take_range (f := dm.qv Q true) (j := A * 8 + B) (by omega))
              have HVk := HV.out (A * 8 + B)
              obtain ⟨bv, hbv⟩ : ∃ bv, bv = 12 + 6 * (((A * 8 + B) / 8 + (A * 8 + B) % 8 : Nat) : Int) := ⟨_, rfl⟩
              have hb : 12 + 6 * ((B : Int) + (A : Int)) = bv := by rw [hbv]; omega
              rw [← hbv] at HVk
              have hb0 : 0 ≤ bv := by omega
              have hb1 : bv ≤ 96 := by omega
              clear hbv
              obtain ⟨hp0, hp1⟩ := dm.prod_range hb0 hb1 hs0 hs1
              obtain ⟨x, hxx⟩ : ∃ x, x = (bv * sv + 50) / 100 := ⟨_, rfl⟩
              have hx1 : (bv * sv + 50) / 100 = x := hxx.symm
              have hx2 : Int.tdiv (bv * sv + 50) 100 = x := by rw [Int.tdiv_eq_ediv_of_nonneg (by omega), ← hxx]
              have hx3 : 0 ≤ x := by omega
              have hx4 : x ≤ 4801 := by omega
              rw [← hxx] at HVk
              rw [HVk] at HN
              clear hxx HVk
              rcases dm.qc_cases x with ⟨h, e⟩ | ⟨h', h, e⟩ | ⟨h', h, e⟩
              · rw [e] at HN
                clear e
                have hsz := Hnx.out.size
                have HO := Lib.hid (Hown.out.alloc (.cells #[.int .i64 (1)] 3))
                go_wp2_with (at_builtin; go_must (refine wpList_append_own _ rfl _ _ 22 rfl w.heap.size 3 i0 (.int .i64 0) 1 8 Try.underlying22 hi hz0 hz1 hz2 rfl (by decide) _ (A * 8 + B) _ rfl HO.out ⟨wr.heap.size, 0, none⟩ 1 1 [.int .i64 (1)] rfl rfl (cell_one_new _ _ _) (ints_oneCell .i64 [(1)]) (by unfold maxLen; omega) (by omega) (by simp; omega) ?_; intro v' w3 hown hg hnil; have Hown' := Lib.hid hown; have Hgr := Lib.hid hg; clear hown hg hnil))
                go_roundg (8 - (B + 1))
                case measure => have := HgB.out; omega
                case rel =>
                  refine ⟨B + 1, by omega, rfl, by go_num, ?_, ?_⟩
                  · have := Hown'.out
                    rw [← List.map_singleton, ← List.map_append, HN.out] at this
                    exact this
                  · refine (Hnx.out.alloc hsz _).grown Hgr.out (by simp; omega) ?_
                    intro j hj
                    exact (Hown.out.lt j hj).1
              · rw [e] at HN
                clear e
                have hsz := Hnx.out.size
                have HO := Lib.hid (Hown.out.alloc (.cells #[.int .i64 (255)] 3))
                go_wp2_with (at_builtin; go_must (refine wpList_append_own _ rfl _ _ 22 rfl w.heap.size 3 i0 (.int .i64 0) 1 8 Try.underlying22 hi hz0 hz1 hz2 rfl (by decide) _ (A * 8 + B) _ rfl HO.out ⟨wr.heap.size, 0, none⟩ 1 1 [.int .i64 (255)] rfl rfl (cell_one_new _ _ _) (ints_oneCell .i64 [(255)]) (by unfold maxLen; omega) (by omega) (by simp; omega) ?_; intro v' w3 hown hg hnil; have Hown' := Lib.hid hown; have Hgr := Lib.hid hg; clear hown hg hnil))
                go_roundg (8 - (B + 1))
                case measure => have := HgB.out; omega
                case rel =>
                  refine ⟨B + 1, by omega, rfl, by go_num, ?_, ?_⟩
                  · have := Hown'.out
                    rw [← List.map_singleton, ← List.map_append, HN.out] at this
                    exact this
                  · refine (Hnx.out.alloc hsz _).grown Hgr.out (by simp; omega) ?_
                    intro j hj
                    exact (Hown.out.lt j hj).1
              · rw [e] at HN
                clear e
                have hsz := Hnx.out.size
                have HO := Lib.hid (Hown.out.alloc (.cells #[.int .i64 (x)] 3))
                go_wp2_with (at_builtin; go_must (refine wpList_append_own _ rfl _ _ 22 rfl w.heap.size 3 i0 (.int .i64 0) 1 8 Try.underlying22 hi hz0 hz1 hz2 rfl (by decide) _ (A * 8 + B) _ rfl HO.out ⟨wr.heap.size, 0, none⟩ 1 1 [.int .i64 (x)] rfl rfl (cell_one_new _ _ _) (ints_oneCell .i64 [(x)]) (by unfold maxLen; omega) (by omega) (by simp; omega) ?_; intro v' w3 hown hg hnil; have Hown' := Lib.hid hown; have Hgr := Lib.hid hg; clear hown hg hnil))
                go_roundg (8 - (B + 1))
                case measure => have := HgB.out; omega
                case rel =>
                  refine ⟨B + 1, by omega, rfl, by go_num, ?_, ?_⟩
                  · have := Hown'.out
                    rw [← List.map_singleton, ← List.map_append, HN.out] at this
                    exact this
                  · refine (Hnx.out.alloc hsz _).grown Hgr.out (by simp; omega) ?_
                    intro j hj
                    exact (Hown.out.lt j hj).1
            · obtain rfl : B = 8 := by omega
              go_wp2_with fail
              go_roundg (8 - (A + 1))
              case measure => have := HgA.out; omega
              case rel => exact ⟨A + 1, by omega, rfl, by go_num, by have := Hown.out; rw [show A * 8 + 8 = (A + 1) * 8 by omega] at this; exact this, Hnx.out⟩
        · obtain rfl : A = 8 := by omega
          have HZ : Hid (wr.ownsRow w.heap.size 3 1 _ 64 ((dm.quantL Q true).map (Value.int .i64))) := Lib.hid Hown.out
          go_wp2_with fail
          go_ret2
          exact ⟨.inr ⟨rfl, _, rfl, fresh_own HZ.out (by decide)⟩, Hnx.out⟩
end Go.Proofs.Ytdpccgnmlfakfaa

