/- The walks of the reference's Zigzag, and of DctOrders. -/
import Derived.Test.YtdpccgnmlfakfaaDctLaw1
import Derived.Test.YtdpccgnmlfakfaaDctMath4
namespace Go.Proofs.Ytdpccgnmlfakfaa
open Go.RowKit

set_option maxRecDepth 100000 in
set_option maxHeartbeats 3200000 in
theorem refZigzag_any (w : World) : Calls Try.prog 19 #[] w fun e w' => IntsPost w.heap.size 64 dm.zzL w e w' := by
  obtain ⟨i0, hi, hz0, hz1, hz2⟩ := info_parts infoInt0
  go_enter Try.func19, Try.ntmps19
  go_wp2_with fail
  go_loopg [1, 2] 15 (fun gk v s wr => ∃ A : Nat, A ≤ 15 ∧ gk = 15 - A ∧ s = .int .i64 A ∧ wr.ownsRow w.heap.size 3 1 v (dm.rzl (A * 8)).length ((dm.rzl (A * 8)).map (Value.int .i64)) ∧ Below w.heap.size w wr)
  case atStart => exact ⟨0, by omega, rfl, rfl, World.ownsRow_nil _ _ _ _, Below.refl _ _⟩
  case round =>
    obtain ⟨A, hA, hg, rfl, hown, hnx⟩ := hrel
    have HgA := Lib.hid hg
    have Hown := Lib.hid hown
    have Hnx := Lib.hid hnx
    clear hg hown hnx
    by_cases hltA : A < 15
    · have hA8 : (A : Int) < 15 := by omega
      go_wp2_with fail
      go_loopg [1, 3] 8 (fun gk v s wr => ∃ B : Nat, B ≤ 8 ∧ gk = 8 - B ∧ s = .int .i64 B ∧ wr.ownsRow w.heap.size 3 1 v (dm.rzl (A * 8 + B)).length ((dm.rzl (A * 8 + B)).map (Value.int .i64)) ∧ Below w.heap.size w wr)
      case atStart => exact ⟨0, by omega, rfl, rfl, Hown.out, Hnx.out⟩
      case round =>
        obtain ⟨B, hB, hg, rfl, hown, hnx⟩ := hrel
        have HgB := Lib.hid hg
        clear Hown Hnx
        have Hown := Lib.hid hown
        have Hnx := Lib.hid hnx
        clear hg hown hnx
        by_cases hltB : B < 8
        · have hB8 : (B : Int) < 8 := by omega
          by_cases hlt : A < B
          · have hneg : (A : Int) - (B : Int) < 0 := by omega
            rcases Nat.mod_two_eq_zero_or_one A with e | e
            · have e2 : (A : Int) % 2 = 0 := by omega
              have HN := Lib.hid (dm.rzl_next A B hltB)
              rw [dm.rzc_none (by omega), List.append_nil] at HN
              go_wp2_with fail
              go_roundg (8 - (B + 1))
              case measure => have := HgB.out; omega
              case rel => exact ⟨B + 1, by omega, rfl, by go_num, by rw [HN.out]; exact Hown.out, Hnx.out⟩
            · have e2 : (A : Int) % 2 = 1 := by omega
              have HN := Lib.hid (dm.rzl_next A B hltB)
              rw [dm.rzc_none (by omega), List.append_nil] at HN
              go_wp2_with fail
              go_roundg (8 - (B + 1))
              case measure => have := HgB.out; omega
              case rel => exact ⟨B + 1, by omega, rfl, by go_num, by rw [HN.out]; exact Hown.out, Hnx.out⟩
          · obtain ⟨d, hd⟩ : ∃ d, d = A - B := ⟨_, rfl⟩
            have hdn := hd.symm
            have hdi : (A : Int) - (B : Int) = (d : Int) := by omega
            clear hd
            by_cases h8 : d < 8
            · have h8' : (d : Int) < 8 := by omega
              rcases Nat.mod_two_eq_zero_or_one A with e | e
              · have e2 : (A : Int) % 2 = 0 := by omega
                have HN := Lib.hid (dm.rzl_next A B hltB)
                have HLe := dm.rzl_le (A * 8 + B)
                rw [dm.rzc_even (by omega) hdn h8 e] at HN
                clear hdn
                have hsz := Hnx.out.size
                have HO := Lib.hid (Hown.out.alloc (.cells #[.int .i64 (8 * (d : Int) + (B : Int))] 3))
                go_wp2_with (at_builtin; go_must (refine wpList_append_own _ rfl _ _ 22 rfl w.heap.size 3 i0 (.int .i64 0) 1 8 Try.underlying22 hi hz0 hz1 hz2 rfl (by decide) _ ((dm.rzl (A * 8 + B)).length) _ rfl HO.out ⟨wr.heap.size, 0, none⟩ 1 1 [.int .i64 (8 * (d : Int) + (B : Int))] rfl rfl (cell_one_new _ _ _) (ints_oneCell .i64 [(8 * (d : Int) + (B : Int))]) (by unfold maxLen; omega) (by omega) (by simp; omega) ?_; intro v' w3 hown hg hnil; have Hown' := Lib.hid hown; have Hgr := Lib.hid hg; clear hown hg hnil))
                go_roundg (8 - (B + 1))
                case measure => have := HgB.out; omega
                case rel =>
                  refine ⟨B + 1, by omega, rfl, by go_num, ?_, ?_⟩
                  · have := Hown'.out
                    rw [← List.map_singleton, ← List.map_append] at this
                    rw [HN.out, List.length_append]
                    exact this
                  · refine (Hnx.out.alloc hsz _).grown Hgr.out (by simp; omega) ?_
                    intro j hj
                    exact (Hown.out.lt j hj).1
              · have e2 : (A : Int) % 2 = 1 := by omega
                have HN := Lib.hid (dm.rzl_next A B hltB)
                have HLe := dm.rzl_le (A * 8 + B)
                rw [dm.rzc_odd (by omega) hdn h8 e] at HN
                clear hdn
                have hsz := Hnx.out.size
                have HO := Lib.hid (Hown.out.alloc (.cells #[.int .i64 (8 * (B : Int) + (d : Int))] 3))
                go_wp2_with (at_builtin; go_must (refine wpList_append_own _ rfl _ _ 22 rfl w.heap.size 3 i0 (.int .i64 0) 1 8 Try.underlying22 hi hz0 hz1 hz2 rfl (by decide) _ ((dm.rzl (A * 8 + B)).length) _ rfl HO.out ⟨wr.heap.size, 0, none⟩ 1 1 [.int .i64 (8 * (B : Int) + (d : Int))] rfl rfl (cell_one_new _ _ _) (ints_oneCell .i64 [(8 * (B : Int) + (d : Int))]) (by unfold maxLen; omega) (by omega) (by simp; omega) ?_; intro v' w3 hown hg hnil; have Hown' := Lib.hid hown; have Hgr := Lib.hid hg; clear hown hg hnil))
                go_roundg (8 - (B + 1))
                case measure => have := HgB.out; omega
                case rel =>
                  refine ⟨B + 1, by omega, rfl, by go_num, ?_, ?_⟩
                  · have := Hown'.out
                    rw [← List.map_singleton, ← List.map_append] at this
                    rw [HN.out, List.length_append]
                    exact this
                  · refine (Hnx.out.alloc hsz _).grown Hgr.out (by simp; omega) ?_
                    intro j hj
                    exact (Hown.out.lt j hj).1
            · have h8' : ¬ (d : Int) < 8 := by omega
              rcases Nat.mod_two_eq_zero_or_one A with e | e
              · have e2 : (A : Int) % 2 = 0 := by omega
                have HN := Lib.hid (dm.rzl_next A B hltB)
                rw [dm.rzc_none (by omega), List.append_nil] at HN
                go_wp2_with fail
                go_roundg (8 - (B + 1))
                case measure => have := HgB.out; omega
                case rel => exact ⟨B + 1, by omega, rfl, by go_num, by rw [HN.out]; exact Hown.out, Hnx.out⟩
              · have e2 : (A : Int) % 2 = 1 := by omega
                have HN := Lib.hid (dm.rzl_next A B hltB)
                rw [dm.rzc_none (by omega), List.append_nil] at HN
                go_wp2_with fail
                go_roundg (8 - (B + 1))
                case measure => have := HgB.out; omega
                case rel => exact ⟨B + 1, by omega, rfl, by go_num, by rw [HN.out]; exact Hown.out, Hnx.out⟩
        · obtain rfl : B = 8 := by omega
          go_wp2_with fail
          go_roundg (15 - (A + 1))
          case measure => have := HgA.out; omega
          case rel => exact ⟨A + 1, by omega, rfl, by go_num, by have := Hown.out; rw [show A * 8 + 8 = (A + 1) * 8 by omega] at this; exact this, Hnx.out⟩
    · obtain rfl : A = 15 := by omega
      have HZ : Hid (wr.ownsRow w.heap.size 3 1 _ 64 (dm.zzL.map (Value.int .i64))) := Lib.hid (by have := Hown.out; rw [dm.rzl_done, dm.zzL_length] at this; exact this)
      go_wp2_with fail
      go_ret
      exact ⟨_, rfl, fresh_own HZ.out (by decide), Hnx.out⟩

/-- a block of truth values -/
def bools (l : List Bool) : Array Value := (l.map Value.bool).toArray
theorem bools_get (l : List Bool) (i : Nat) (h : i < l.length) : (bools l)[i]? = some (.bool (l.getD i false)) := by
  simp [bools, List.getD_eq_getElem?_getD, List.getElem?_eq_getElem h]
theorem bools_cell {w : World} {g : Nat} {l : List Bool} {t : TypeId} (h : w.heap[g]? = some (.cells (bools l) t (0, 0))) (i : Nat) (hi : i < l.length) : w.cell? ⟨g, i, none⟩ = some (.bool (l.getD i false)) :=
  (cell_of_row w g i _ t (0, 0) h).trans (bools_get l i hi)
theorem bools_free {w : World} {g : Nat} {l : List Bool} {t : TypeId} (h : w.heap[g]? = some (.cells (bools l) t (0, 0))) (i : Nat) : w.frozen? ⟨g, i, none⟩ = false := frozen_of_row w g i _ t h
theorem bools_store {w : World} {g : Nat} {l : List Bool} {t : TypeId} (h : w.heap[g]? = some (.cells (bools l) t (0, 0))) (i : Nat) (x : Bool) : (w.setCell ⟨g, i, none⟩ (.bool x)).heap[g]? = some (.cells (bools (l.set i x)) t (0, 0)) := by
  rw [heap_setCell_same w g i _ t _ h]
  simp [bools, List.map_set]
theorem infoBool0 : (Try.prog.info? 4).map (fun i => (i.zero, i.size, i.bytes)) = some (some (.bool false), 1, 1) := by kernel_rfl
theorem makeMet (w : World) : (Instr.makeSlice 38 (.int .i64 64) (.int .i64 64)).run Try.prog w = .ok (.slice (some ⟨w.heap.size, 0, none⟩) 64 64) (w.alloc (.cells (bools (dm.met 0)) 4)) := by
  obtain ⟨i0, hi, hz0, hz1, hz2⟩ := info_parts infoBool0
  have h := run_make (P := Try.prog) w 38 4 i0 (.bool false) Try.underlying38 hi hz0 .i64 .i64 64 64 (by omega) (by omega) (by rw [hz2]; decide) (by decide)
  rw [h]
  have e : madeCells (Value.bool false).cells ((64 : Int).toNat * i0.size) = bools (dm.met 0) := by
    rw [hz1, dm.met_zero]
    kernel_rfl
  first
    | rw [e]
    | skip
  rfl

set_option maxRecDepth 100000 in
set_option maxHeartbeats 3200000 in
theorem dctOrders_any (x : Int) (y : Bool) (w : World) (_hx : (Lit.int .i64 x).wf = true) :
    Calls Try.prog 6 #[.int .i64 x, .bool y] w fun e w' => e = .returned (.bool true) ∧ Below w.heap.size w w' := by
  have hmk := makeMet
  go_enter Try.func6, Try.ntmps6
  go_wp2_with fail
  go_must (refine (wakes_any _).mono ?_)
  rintro e w1 ⟨rfl, hb1⟩
  have B1 := Lib.hid hb1
  clear hb1
  go_wp2_with fail
  go_must (refine (quant_any x y w1).mono ?_)
  rintro e w2 hp
  obtain ⟨a3, n3, c3, l3, rfl, hl3, hc3, hm3, hr3, he3, hb3⟩ := hp.view
  have B2 := Lib.hid (B1.out.trans (hb3.mono B1.out.size))
  have R3 := Lib.hid hr3
  have E3 := Lib.hid he3
  have L3 := Lib.hid hl3
  have M3 := Lib.hid hm3
  clear hp hr3 he3 hl3 hm3 hb3 B1
  go_wp2_with fail
  go_must (refine (refQuant_any x y w2).mono ?_)
  rintro e w4 hp
  obtain ⟨a4, n4, c4, l4, rfl, hl4, hc4, hm4, hr4, he4, hb4⟩ := hp.view
  have B4 := Lib.hid (B2.out.trans (hb4.mono B2.out.size))
  have R4 := Lib.hid hr4
  have E4 := Lib.hid he4
  have L4 := Lib.hid hl4
  have M4 := Lib.hid hm4
  have R43 := Lib.hid (R3.out.below hb4)
  clear hp hr4 he4 hl4 hm4 hb4 R3 B2
  go_wp2_with fail
  go_must (refine (zigzag_any w4).mono ?_)
  rintro e w5 ⟨v, rfl, hv, hb5⟩
  obtain ⟨gZ, cZ, rfl, hg1, hl1, hcZ, hmZ, hrZ, _⟩ := hv.open
  have B5 := Lib.hid (B4.out.trans (hb5.mono B4.out.size))
  have R5 := Lib.hid hrZ
  have R54 := Lib.hid (R4.out.below hb5)
  have R53 := Lib.hid (R43.out.below hb5)
  have HcZ := Lib.hid hcZ
  have HmZ := Lib.hid hmZ
  clear hv hrZ hb5 hg1 hl1 R4 R43 B4 hcZ hmZ hc4 hc3
  go_wp2_with fail
  go_loopg [30] 64 (fun gk s wr => ∃ k : Nat, k ≤ 64 ∧ gk = 64 - k ∧ s = .int .i64 k ∧ wr.heap[w5.heap.size]? = some (.cells (bools (dm.met k)) 4 (0, 0)) ∧ Below w5.heap.size w5 wr)
  case atStart => exact ⟨0, by omega, rfl, rfl, heap_alloc_new _ _, (Below.refl _ _).alloc (Nat.le_refl _) _⟩
  case round =>
    obtain ⟨k, hk, hg, rfl, hx, hnx⟩ := hrel
    have Hg := Lib.hid hg
    have Hx := Lib.hid hx
    have Hnx := Lib.hid hnx
    clear hg hx hnx hmk
    by_cases hlt : k < 64
    · obtain ⟨hz1, hz2⟩ := dm.zz_at k hlt
      have hn := dm.met_new k hlt
      have HS := Lib.hid (dm.met_set k hlt)
      generalize (dm.zst k).1 * 8 + (dm.zst k).2 = p at *
      have hcz := rd_at (i := k) (R5.out.below Hnx.out) (by rw [dm.zzL_length]; exact hlt)
      rw [hz1] at hcz
      have hc := bools_cell Hx.out p (by rw [dm.met_length]; exact hz2)
      rw [hn] at hc
      have hf := bools_free Hx.out p
      have hk64 : (k : Int) < 64 := by omega
      have hp64 : (p : Int) < 64 := by omega
      have hp63 : ¬ 63 < (p : Int) := by omega
      have HZ : Hid ((wr.setCell ⟨w5.heap.size, p, none⟩ (.bool true)).heap[w5.heap.size]? = some (.cells (bools (dm.met (k + 1))) 4 (0, 0)) ∧ Below w5.heap.size w5 (wr.setCell ⟨w5.heap.size, p, none⟩ (.bool true))) := Lib.hid (by
        refine ⟨?_, Hnx.out.setCell (Nat.le_refl _) _⟩
        rw [bools_store Hx.out p, HS.out])
      clear hn hz1
      go_wp2_with fail
      obtain ⟨z0, z1⟩ := HZ.out
      go_roundg (64 - (k + 1))
      case measure => have := Hg.out; omega
      case rel => exact ⟨k + 1, by omega, rfl, by go_num, z0, z1⟩
    · obtain rfl : k = 64 := by omega
      have hb6 := Hnx.out
      have B6 := Lib.hid (B5.out.trans (hb6.mono B5.out.size))
      have R64 := Lib.hid (R54.out.below hb6)
      have R63 := Lib.hid (R53.out.below hb6)
      have R65 := Lib.hid (R5.out.below hb6)
      clear hb6 R54 R53 R5 B5
      go_wp2_with fail
      go_must (refine (sameInts_any a3 a4 n3 n4 c3 c4 l3 l4 wr L3.out L4.out M3.out M4.out R63.out R64.out).mono ?_)
      rw [decide_eq_true (E3.out.trans E4.out.symm)]
      rintro e w8 ⟨rfl, hb8⟩
      have B8 := Lib.hid (B6.out.trans (hb8.mono B6.out.size))
      have R85 := Lib.hid (R65.out.below hb8)
      clear hb8 B6
      go_wp2_with fail
      go_must (refine (refZigzag_any w8).mono ?_)
      rintro e w9 ⟨v, rfl, hv, hb9⟩
      obtain ⟨gY, cY, rfl, hg1, hl1, hcY, hmY, hrY, _⟩ := hv.open
      have B9 := Lib.hid (B8.out.trans (hb9.mono B8.out.size))
      have R9 := Lib.hid hrY
      have R95 := Lib.hid (R85.out.below hb9)
      clear hv hrY hb9 hg1 hl1 B8
      go_wp2_with fail
      go_must (refine (sameInts_any _ _ 64 64 cZ cY dm.zzL dm.zzL w9 dm.zzL_length dm.zzL_length (by decide) (by decide) R95.out R9.out).mono ?_)
      rw [decide_eq_true rfl]
      rintro e w10 ⟨rfl, hb10⟩
      have B10 := Lib.hid (B9.out.trans (hb10.mono B9.out.size))
      clear hb10 B9
      go_wp2_with fail
      go_ret
      exact ⟨rfl, B10.out⟩
end Go.Proofs.Ytdpccgnmlfakfaa

