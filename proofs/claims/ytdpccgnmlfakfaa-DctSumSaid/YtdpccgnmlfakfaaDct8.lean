/- The walks of the reference's table, and of SameInts. -/
import Derived.Test.YtdpccgnmlfakfaaDct7
namespace Go.Proofs.Ytdpccgnmlfakfaa
open Go.RowKit

set_option maxRecDepth 100000 in
set_option maxHeartbeats 1600000 in
theorem refTable_any (w : World) : Calls Try.prog 30 #[] w fun e w' => e = .returned (.agg (ints dm.basL)) ∧ Below w.heap.size w w' := by
  obtain ⟨hz, hsz⟩ := zero_of_info info64
  have Hsz := Lib.hid hsz
  obtain ⟨bf, hbf⟩ : ∃ bf : Nat → Int, bf = fun i => dm.bas (i / 8) (i % 8) := ⟨_, rfl⟩
  have HL : Hid ((List.range 64).map bf = dm.basL) := Lib.hid (by rw [hbf]; rfl)
  have Hbf : Hid (∀ u x, x < 8 → bf (u * 8 + x) = dm.bas u x) := Lib.hid (by
    intro u x hx
    rw [hbf]
    show dm.bas ((u * 8 + x) / 8) ((u * 8 + x) % 8) = _
    rw [show (u * 8 + x) / 8 = u by omega, show (u * 8 + x) % 8 = x by omega])
  rw [← HL.out]
  clear hsz hbf HL
  go_enter Try.func30, Try.ntmps30
  go_wp2_with fail
  go_loopg [2] 8 (fun gk s wr => ∃ u : Nat, u ≤ 8 ∧ gk = 8 - u ∧ s = .int .i64 u ∧ wr.heap[w.heap.size]? = some (.cells (ints zero64) 50 (0, 0)) ∧
    wr.heap[w.heap.size + 1]? = some (.cells (ints (dm.partR bf (u * 8))) 50 (0, 0)) ∧ Below w.heap.size w wr)
  case atStart =>
    refine ⟨0, by omega, rfl, rfl, heap_alloc2_old _ _ _, ?_, ((Below.refl _ _).alloc (Nat.le_refl _) _).alloc (by simp) _⟩
    rw [Nat.zero_mul, dm.partR_zero]
    exact heap_alloc2_new _ _ _
  case round =>
    obtain ⟨u, hu, hg, rfl, h0, h1, hb⟩ := hrel
    have Hg := Lib.hid hg
    have P0 := Lib.hid h0
    have P1 := Lib.hid h1
    have HB := Lib.hid hb
    clear hg h0 h1 hb
    by_cases hlt : u < 8
    · have hu8 : (u : Int) < 8 := by omega
      go_wp2_with fail
      go_loopg [3] 8 (fun gk2 s ws => ∃ x : Nat, x ≤ 8 ∧ gk2 = 8 - x ∧ s = .int .i64 x ∧ ws.heap[w.heap.size]? = some (.cells (ints zero64) 50 (0, 0)) ∧
        ws.heap[w.heap.size + 1]? = some (.cells (ints (dm.partR bf (u * 8 + x))) 50 (0, 0)) ∧ Below w.heap.size w ws)
      case atStart => exact ⟨0, by omega, rfl, rfl, P0.out, P1.out, HB.out⟩
      case round =>
        obtain ⟨x, hx8, hg2, rfl, h0, h1, hb⟩ := hrel
        have Hg2 := Lib.hid hg2
        have P0 := Lib.hid h0
        have P1 := Lib.hid h1
        have HB := Lib.hid hb
        clear hg2 h0 h1 hb
        by_cases hlt2 : x < 8
        · have hx8' : (x : Int) < 8 := by omega
          have hix : 8 * (u : Int) + (x : Int) = ((u * 8 + x : Nat) : Int) := by omega
          go_wp2_with fail
          go_must (refine (refBasis_any u x _ hlt hlt2).mono ?_)
          rintro e w1 ⟨rfl, hb1⟩
          have P0' := Lib.hid ((hb1.block _ (block_lt P0.out)).trans P0.out)
          have P1' := Lib.hid ((hb1.block _ (block_lt P1.out)).trans P1.out)
          have HB' := Lib.hid (HB.out.trans (hb1.mono HB.out.size))
          have hc := ints_cell P1'.out (u * 8 + x) (by rw [dm.partR_length]; omega)
          have hf := ints_free P1'.out (u * 8 + x)
          have HZ : Hid ((w1.setCell ⟨w.heap.size + 1, u * 8 + x, none⟩ (.int .i64 (dm.bas u x))).heap[w.heap.size]? = some (.cells (ints zero64) 50 (0, 0)) ∧
              (w1.setCell ⟨w.heap.size + 1, u * 8 + x, none⟩ (.int .i64 (dm.bas u x))).heap[w.heap.size + 1]? = some (.cells (ints (dm.partR bf (u * 8 + (x + 1)))) 50 (0, 0)) ∧
              Below w.heap.size w (w1.setCell ⟨w.heap.size + 1, u * 8 + x, none⟩ (.int .i64 (dm.bas u x)))) := Lib.hid (by
            refine ⟨?_, ?_, HB'.out.setCell (by simp) _⟩
            · rw [heap_setCell_other _ _ _ _ (by simp)]; exact P0'.out
            · rw [ints_store P1'.out (u * 8 + x), ← Hbf.out u x hlt2, dm.partR_set]; rfl)
          clear hb1
          generalize dm.bas u x = bv at *
          go_wp2_with fail
          obtain ⟨z0, z1, z2⟩ := HZ.out
          go_roundg (8 - (x + 1))
          case measure => have := Hg2.out; omega
          case rel => exact ⟨x + 1, by omega, rfl, by go_num, z0, z1, z2⟩
        · obtain rfl : x = 8 := by omega
          go_wp2_with fail
          go_roundg (8 - (u + 1))
          case measure => have := Hg.out; omega
          case rel => exact ⟨u + 1, by omega, rfl, by go_num, P0.out, by rw [Nat.add_mul, Nat.one_mul]; exact P1.out, HB.out⟩
    · obtain rfl : u = 8 := by omega
      have Hz : Hid (Option.map (fun x => x.size) (Try.prog.info? 50) = some (ints (dm.partR bf (8 * 8))).size) := by rw [ints_size, dm.partR_length]; exact Hsz.out
      go_wp2_with (first
        | (with_reducible refine wpList_load_row rfl 50 _ rfl (w.heap.size + 1) rfl 50 _ (0, 0) _ P1.out Try.underlying50 rfl Hz.out ?_)
        | (with_reducible refine wpList_store_row rfl 50 _ _ rfl w.heap.size _ rfl rfl 50 _ P0.out Hz.out (by rw [ints_size, ints_size, dm.partR_length, zero64_length]) (ints_one _) ?_))
      exact bodyPost_ret (v := .agg (ints ((List.range 64).map bf))) (by rw [← dm.partR_done]; exact results_cell_row (p := 0) (ty := 50) rfl _ _ w.heap.size 50 _ (0, 0) _ rfl (setRow_heap wr _ _ _ _ _ P0.out) Try.underlying50 rfl Hz.out) rfl ⟨rfl, below_setRow HB.out (Nat.le_refl _) _⟩

/-- two lists of one length that are not equal differ first somewhere -/
theorem first_off : ∀ {l m : List Int}, l.length = m.length → l ≠ m → ∃ d, d < l.length ∧ l.getD d 0 ≠ m.getD d 0 ∧ ∀ i, i < d → l.getD i 0 = m.getD i 0
  | [], [], _, h => absurd rfl h
  | [], _ :: _, h, _ => by simp at h
  | _ :: _, [], h, _ => by simp at h
  | x :: l, y :: m, hl, hne => by
    by_cases hxy : x = y
    · subst hxy
      obtain ⟨d, h1, h2, h3⟩ := first_off (l := l) (m := m) (by simpa using hl) (fun e => hne (by rw [e]))
      refine ⟨d + 1, by simpa using h1, by simpa using h2, fun i hi => ?_⟩
      cases i with
      | zero => rfl
      | succ i => simpa using h3 i (by omega)
    · exact ⟨0, by simp, by simpa using hxy, fun i hi => absurd hi (by omega)⟩

set_option maxRecDepth 100000 in
set_option maxHeartbeats 800000 in
theorem sameInts_any (a1 a2 : Option Addr) (n1 n2 c1 c2 : Nat) (l m : List Int) (w : World) (h1 : l.length = n1) (h2 : m.length = n2) (hm1 : n1 ≤ maxLen) (hm2 : n2 ≤ maxLen) (hr1 : Rd .i64 w a1 l) (hr2 : Rd .i64 w a2 m) :
    Calls Try.prog 15 #[.slice a1 n1 c1, .slice a2 n2 c2] w fun e w' => e = .returned (.bool (decide (l = m))) ∧ Below w.heap.size w w' := by
  unfold maxLen at hm1 hm2
  by_cases hn : n1 = n2
  · subst hn
    have HM := Lib.hid hm1
    by_cases hlm : l = m
    · subst hlm
      rw [decide_eq_true rfl]
      have R1 := Lib.hid hr1
      have R2 := Lib.hid hr2
      have HL := Lib.hid h1
      clear hr1 hr2 h1 h2 hm2
      go_enter Try.func15, Try.ntmps15
      go_wp2_with fail
      go_loopg [5] n1 (fun gk s wr => ∃ k : Nat, k ≤ n1 ∧ gk = n1 - k ∧ s = .int .i64 k ∧ Below w.heap.size w wr)
      case atStart => exact ⟨0, by omega, rfl, rfl, Below.refl _ _⟩
      case round =>
        obtain ⟨k, hk, hg, rfl, hb⟩ := hrel
        have Hg := Lib.hid hg
        have B := Lib.hid hb
        clear hg hb
        by_cases hlt : k < n1
        · obtain ⟨b1, o1, rfl⟩ := R1.out.at (by rw [HL.out]; omega)
          obtain ⟨b2, o2, rfl⟩ := R2.out.at (by rw [HL.out]; omega)
          have x1 := (R1.out.below B.out).cell k (by rw [HL.out]; exact hlt)
          have x2 := (R2.out.below B.out).cell k (by rw [HL.out]; exact hlt)
          have hlt' : (k : Int) < (n1 : Int) := by omega
          generalize l.getD k 0 = v at *
          go_wp2_with fail
          go_region
          go_wp2_with fail
          go_roundg (n1 - (k + 1))
          case measure => have := Hg.out; omega
          case rel => exact ⟨k + 1, by omega, rfl, by go_num, B.out.drew⟩
        · obtain rfl : k = n1 := by omega
          go_wp2_with fail
          go_ret
          exact ⟨rfl, B.out⟩
    · rw [decide_eq_false hlm]
      obtain ⟨d, hd1, hd2, hd3⟩ := first_off (h1.trans h2.symm) hlm
      have R1 := Lib.hid hr1
      have R2 := Lib.hid hr2
      have HL := Lib.hid h1
      have HL2 := Lib.hid h2
      have D2 := Lib.hid hd2
      have D3 := Lib.hid hd3
      have hd : d < n1 := by omega
      clear hr1 hr2 h1 h2 hm2 hd2 hd3 hd1
      go_enter Try.func15, Try.ntmps15
      go_wp2_with fail
      go_loopg [5] n1 (fun gk s wr => ∃ k : Nat, k ≤ d ∧ gk = n1 - k ∧ s = .int .i64 k ∧ Below w.heap.size w wr)
      case atStart => exact ⟨0, by omega, rfl, rfl, Below.refl _ _⟩
      case round =>
        obtain ⟨k, hk, hg, rfl, hb⟩ := hrel
        have Hg := Lib.hid hg
        have B := Lib.hid hb
        clear hg hb
        obtain ⟨b1, o1, rfl⟩ := R1.out.at (by rw [HL.out]; omega)
        obtain ⟨b2, o2, rfl⟩ := R2.out.at (by rw [HL2.out]; omega)
        have x1 := (R1.out.below B.out).cell k (by rw [HL.out]; omega)
        have x2 := (R2.out.below B.out).cell k (by rw [HL2.out]; omega)
        have hlt' : (k : Int) < (n1 : Int) := by omega
        by_cases hlt : k < d
        · have e := D3.out k hlt
          rw [← e] at x2
          clear e
          generalize l.getD k 0 = v at *
          go_wp2_with fail
          go_region
          go_wp2_with fail
          go_roundg (n1 - (k + 1))
          case measure => have := Hg.out; omega
          case rel => exact ⟨k + 1, by omega, rfl, by go_num, B.out.drew⟩
        · obtain rfl : k = d := by omega
          have hne := D2.out
          generalize l.getD k 0 = v at *
          generalize m.getD k 0 = v2 at *
          go_wp2_with fail
          go_region
          go_wp2_with fail
          go_ret
          exact ⟨rfl, B.out.drew⟩
  · rw [decide_eq_false (fun e => hn (by rw [← h1, ← h2, e]))]
    have hn' : ¬ (n1 : Int) = (n2 : Int) := by omega
    clear hr1 hr2 h1 h2
    go_enter Try.func15, Try.ntmps15
    go_wp2_with fail
    go_ret
    exact ⟨rfl, Below.refl _ _⟩
end Go.Proofs.Ytdpccgnmlfakfaa
