/- The walks of Zigzag and Quant. -/
import Derived.Test.YtdpccgnmlfakfaaDct9
import Derived.Test.YtdpccgnmlfakfaaDctMath3
namespace Go.Proofs.Ytdpccgnmlfakfaa
open Go.RowKit

theorem fresh_cells {k : IntKind} {t : TypeId} {base g n : Nat} {w' : World} {l : List Int} (h : w'.heap[g]? = some (.cells ((l.map (Value.int k)).toArray) t (0, 0))) (hl : l.length = n) (hb : base ≤ g) (hn : n ≤ maxLen) : Fresh k t base w' (.slice (some ⟨g, 0, none⟩) n n) n l :=
  ⟨g, n, rfl, hb, by simp [hl], .inr ⟨g, n, _, rfl, hb, h, Nat.le_refl _, hn, by simp [hl], by subst hl; rw [Nat.mul_one]; exact List.take_of_length_le (by simp)⟩⟩

theorem fresh_own {k : IntKind} {t : TypeId} {base : Nat} {w' : World} {v : Value} {n : Nat} {l : List Int} (h : w'.ownsRow base t 1 v n (l.map (Value.int k))) (hn : 0 < n) : Fresh k t base w' v n l := fresh_of h (by
  rintro rfl
  rcases h.2 with ⟨_, h'⟩ | ⟨g, cap', cur, h', _⟩
  · omega
  · cases h')

theorem make64f (w : World) : (Instr.makeSlice 22 (.int .i64 64) (.int .i64 64)).run Try.prog w = .ok (.slice (some ⟨w.heap.size, 0, none⟩) 64 64) (w.alloc (.cells (ints zero64) 3)) := by
  obtain ⟨i0, hi, hz0, hz1, hz2⟩ := info_parts infoInt
  have h := run_make (P := Try.prog) w 22 3 i0 (.int .i64 0) Try.underlying22 hi hz0 .i64 .i64 64 64 (by omega) (by omega) (by rw [hz2]; decide) (by decide)
  rw [h]
  have e : madeCells (Value.int IntKind.i64 0).cells ((64 : Int).toNat * i0.size) = ints zero64 := by
    rw [hz1]
    kernel_rfl
  first
    | rw [e]
    | skip
  rfl

set_option maxRecDepth 100000 in
set_option maxHeartbeats 3200000 in
theorem zigzag_any (w : World) : Calls Try.prog 18 #[] w fun e w' => IntsPost w.heap.size 64 dm.zzL w e w' := by
  obtain ⟨i0, hi, hz0, hz1, hz2⟩ := info_parts infoInt0
  have hmk := make64
  have HO1 : Hid ((w.alloc (.cells (ints zero64) 3)).ownsRow w.heap.size 3 1 (.slice (some ⟨w.heap.size, 0, none⟩) 0 64) 0 ((dm.zzL.take 0).map (Value.int .i64))) := Lib.hid (by
    have := World.ownsRow_made (e := 3) (size := 1) (base := w.heap.size) w (ints zero64) 64 (by simp) (by decide) (by rw [ints_size]; rfl)
    simpa using this)
  have HB1 : Hid (Below w.heap.size w (w.alloc (.cells (ints zero64) 3))) := Lib.hid ((Below.refl _ _).alloc (Nat.le_refl _) _)
  go_enter Try.func18, Try.ntmps18
  go_wp2_with fail
  go_loopg [1, 2, 3, 5] 64 (fun gk v sr sc s wr => ∃ k : Nat, k ≤ 64 ∧ gk = 64 - k ∧ s = .int .i64 k ∧ sr = .int .i64 ((dm.zst k).1 : Nat) ∧ sc = .int .i64 ((dm.zst k).2 : Nat) ∧ wr.ownsRow w.heap.size 3 1 v k ((dm.zzL.take k).map (Value.int .i64)) ∧ Below w.heap.size w wr)
  case atStart => exact ⟨0, by omega, rfl, rfl, rfl, rfl, HO1.out, HB1.out⟩
  case round =>
    obtain ⟨k, hk, hg, rfl, rfl, rfl, hown, hnx⟩ := hrel
    have Hg := Lib.hid hg
    have Hown := Lib.hid hown
    have Hnx := Lib.hid hnx
    clear hg hown hnx HO1 HB1 hmk
    by_cases hlt : k < 64
    · obtain ⟨hr7, hc7⟩ := dm.zst_le k hlt
      have HN := Lib.hid (dm.take_range (f := dm.zf) (j := k) hlt)
      have HS : Hid (dm.zst (k + 1) = dm.zstep (dm.zst k).1 (dm.zst k).2) := Lib.hid rfl
      have HF : Hid (dm.zf k = 8 * ((dm.zst k).1 : Int) + ((dm.zst k).2 : Int)) := Lib.hid rfl
      rw [HF.out] at HN
      clear HF
      generalize (dm.zst k).1 = r at *
      generalize (dm.zst k).2 = c at *
      rcases dm.zstep_cases r c hr7 with ⟨e, k1⟩ | ⟨e, k1, k2⟩ | ⟨e, k1, k2⟩ | ⟨e, k1⟩ | ⟨e, k1, k2⟩ | ⟨e, k1, k2⟩
      · have HT : Hid (dm.zst (k + 1) = (r + 1, c)) := Lib.hid (HS.out.trans (dm.zstep_a e k1))
        clear HS
        have ee : ((r : Int) + (c : Int)) % 2 = 0 := by omega
        have ev : 8 * (r : Int) + (c : Int) = 8 * (r : Int) + 7 := by omega
        rw [ev] at HN
        clear ev
        subst k1
        have hsz := Hnx.out.size
        have HO := Lib.hid (Hown.out.alloc (.cells #[.int .i64 (8 * (r : Int) + 7)] 3))
        go_wp2_with (at_builtin; go_must (refine wpList_append_own _ rfl _ _ 22 rfl w.heap.size 3 i0 (.int .i64 0) 1 8 Try.underlying22 hi hz0 hz1 hz2 rfl (by decide) _ (k) _ rfl HO.out ⟨wr.heap.size, 0, none⟩ 1 1 [.int .i64 (8 * (r : Int) + 7)] rfl rfl (cell_one_new _ _ _) (ints_oneCell .i64 [(8 * (r : Int) + 7)]) (by unfold maxLen; omega) (by omega) (by simp; omega) ?_; intro v' w3 hown hg hnil; have Hown' := Lib.hid hown; have Hgr := Lib.hid hg; clear hown hg hnil))
        go_roundg (64 - (k + 1))
        case measure => have := Hg.out; omega
        case rel =>
          refine ⟨k + 1, by omega, rfl, by go_num, by rw [HT.out]; go_num, by rw [HT.out]; go_num, ?_, ?_⟩
          · have := Hown'.out
            rw [← List.map_singleton, ← List.map_append] at this
            rw [show dm.zzL.take (k + 1) = dm.zzL.take k ++ [8 * (r : Int) + 7] from HN.out.symm]
            exact this
          · refine (Hnx.out.alloc hsz _).grown Hgr.out (by simp; omega) ?_
            intro j hj
            exact (Hown.out.lt j hj).1
      · have HT : Hid (dm.zst (k + 1) = (r + 1, c)) := Lib.hid (HS.out.trans (dm.zstep_b e k1 k2))
        clear HS
        have ee : ((r : Int) + (c : Int)) % 2 = 1 := by omega
        have kk : (r : Int) < 7 := by omega
        have ev : 8 * (r : Int) + (c : Int) = 8 * (r : Int) := by omega
        rw [ev] at HN
        clear ev
        subst k2
        have hsz := Hnx.out.size
        have HO := Lib.hid (Hown.out.alloc (.cells #[.int .i64 (8 * (r : Int))] 3))
        go_wp2_with (at_builtin; go_must (refine wpList_append_own _ rfl _ _ 22 rfl w.heap.size 3 i0 (.int .i64 0) 1 8 Try.underlying22 hi hz0 hz1 hz2 rfl (by decide) _ (k) _ rfl HO.out ⟨wr.heap.size, 0, none⟩ 1 1 [.int .i64 (8 * (r : Int))] rfl rfl (cell_one_new _ _ _) (ints_oneCell .i64 [(8 * (r : Int))]) (by unfold maxLen; omega) (by omega) (by simp; omega) ?_; intro v' w3 hown hg hnil; have Hown' := Lib.hid hown; have Hgr := Lib.hid hg; clear hown hg hnil))
        go_roundg (64 - (k + 1))
        case measure => have := Hg.out; omega
        case rel =>
          refine ⟨k + 1, by omega, rfl, by go_num, by rw [HT.out]; go_num, by rw [HT.out]; go_num, ?_, ?_⟩
          · have := Hown'.out
            rw [← List.map_singleton, ← List.map_append] at this
            rw [show dm.zzL.take (k + 1) = dm.zzL.take k ++ [8 * (r : Int)] from HN.out.symm]
            exact this
          · refine (Hnx.out.alloc hsz _).grown Hgr.out (by simp; omega) ?_
            intro j hj
            exact (Hown.out.lt j hj).1
      · have HT : Hid (dm.zst (k + 1) = (r, c + 1)) := Lib.hid (HS.out.trans (dm.zstep_c e k1 k2))
        clear HS
        have ee : ((r : Int) + (c : Int)) % 2 = 0 := by omega
        have kk : ¬ (c : Int) = 7 := by omega
        have ev : 8 * (r : Int) + (c : Int) = (c : Int) := by omega
        rw [ev] at HN
        clear ev
        subst k2
        have hsz := Hnx.out.size
        have HO := Lib.hid (Hown.out.alloc (.cells #[.int .i64 ((c : Int))] 3))
        go_wp2_with (at_builtin; go_must (refine wpList_append_own _ rfl _ _ 22 rfl w.heap.size 3 i0 (.int .i64 0) 1 8 Try.underlying22 hi hz0 hz1 hz2 rfl (by decide) _ (k) _ rfl HO.out ⟨wr.heap.size, 0, none⟩ 1 1 [.int .i64 ((c : Int))] rfl rfl (cell_one_new _ _ _) (ints_oneCell .i64 [((c : Int))]) (by unfold maxLen; omega) (by omega) (by simp; omega) ?_; intro v' w3 hown hg hnil; have Hown' := Lib.hid hown; have Hgr := Lib.hid hg; clear hown hg hnil))
        go_roundg (64 - (k + 1))
        case measure => have := Hg.out; omega
        case rel =>
          refine ⟨k + 1, by omega, rfl, by go_num, by rw [HT.out]; go_num, by rw [HT.out]; go_num, ?_, ?_⟩
          · have := Hown'.out
            rw [← List.map_singleton, ← List.map_append] at this
            rw [show dm.zzL.take (k + 1) = dm.zzL.take k ++ [(c : Int)] from HN.out.symm]
            exact this
          · refine (Hnx.out.alloc hsz _).grown Hgr.out (by simp; omega) ?_
            intro j hj
            exact (Hown.out.lt j hj).1
      · have HT : Hid (dm.zst (k + 1) = (r, c + 1)) := Lib.hid (HS.out.trans (dm.zstep_d e k1))
        clear HS
        have ee : ((r : Int) + (c : Int)) % 2 = 1 := by omega
        have ev : 8 * (r : Int) + (c : Int) = 56 + (c : Int) := by omega
        rw [ev] at HN
        clear ev
        subst k1
        have hsz := Hnx.out.size
        have HO := Lib.hid (Hown.out.alloc (.cells #[.int .i64 (56 + (c : Int))] 3))
        go_wp2_with (at_builtin; go_must (refine wpList_append_own _ rfl _ _ 22 rfl w.heap.size 3 i0 (.int .i64 0) 1 8 Try.underlying22 hi hz0 hz1 hz2 rfl (by decide) _ (k) _ rfl HO.out ⟨wr.heap.size, 0, none⟩ 1 1 [.int .i64 (56 + (c : Int))] rfl rfl (cell_one_new _ _ _) (ints_oneCell .i64 [(56 + (c : Int))]) (by unfold maxLen; omega) (by omega) (by simp; omega) ?_; intro v' w3 hown hg hnil; have Hown' := Lib.hid hown; have Hgr := Lib.hid hg; clear hown hg hnil))
        go_roundg (64 - (k + 1))
        case measure => have := Hg.out; omega
        case rel =>
          refine ⟨k + 1, by omega, rfl, by go_num, by rw [HT.out]; go_num, by rw [HT.out]; go_num, ?_, ?_⟩
          · have := Hown'.out
            rw [← List.map_singleton, ← List.map_append] at this
            rw [show dm.zzL.take (k + 1) = dm.zzL.take k ++ [56 + (c : Int)] from HN.out.symm]
            exact this
          · refine (Hnx.out.alloc hsz _).grown Hgr.out (by simp; omega) ?_
            intro j hj
            exact (Hown.out.lt j hj).1
      · have HT : Hid (dm.zst (k + 1) = (r - 1, c + 1)) := Lib.hid (HS.out.trans (dm.zstep_e e k1 k2))
        clear HS
        have ee : ((r : Int) + (c : Int)) % 2 = 0 := by omega
        have kk : ¬ (c : Int) = 7 := by omega
        have kk2 : ¬ (r : Int) = 0 := by omega
        have ev : 8 * (r : Int) + (c : Int) = 8 * (r : Int) + (c : Int) := by omega
        rw [ev] at HN
        clear ev
        have hsz := Hnx.out.size
        have HO := Lib.hid (Hown.out.alloc (.cells #[.int .i64 (8 * (r : Int) + (c : Int))] 3))
        go_wp2_with (at_builtin; go_must (refine wpList_append_own _ rfl _ _ 22 rfl w.heap.size 3 i0 (.int .i64 0) 1 8 Try.underlying22 hi hz0 hz1 hz2 rfl (by decide) _ (k) _ rfl HO.out ⟨wr.heap.size, 0, none⟩ 1 1 [.int .i64 (8 * (r : Int) + (c : Int))] rfl rfl (cell_one_new _ _ _) (ints_oneCell .i64 [(8 * (r : Int) + (c : Int))]) (by unfold maxLen; omega) (by omega) (by simp; omega) ?_; intro v' w3 hown hg hnil; have Hown' := Lib.hid hown; have Hgr := Lib.hid hg; clear hown hg hnil))
        go_roundg (64 - (k + 1))
        case measure => have := Hg.out; omega
        case rel =>
          refine ⟨k + 1, by omega, rfl, by go_num, by rw [HT.out]; go_num, by rw [HT.out]; go_num, ?_, ?_⟩
          · have := Hown'.out
            rw [← List.map_singleton, ← List.map_append] at this
            rw [show dm.zzL.take (k + 1) = dm.zzL.take k ++ [8 * (r : Int) + (c : Int)] from HN.out.symm]
            exact this
          · refine (Hnx.out.alloc hsz _).grown Hgr.out (by simp; omega) ?_
            intro j hj
            exact (Hown.out.lt j hj).1
      · have HT : Hid (dm.zst (k + 1) = (r + 1, c - 1)) := Lib.hid (HS.out.trans (dm.zstep_f e k1 k2))
        clear HS
        have ee : ((r : Int) + (c : Int)) % 2 = 1 := by omega
        have kk : ¬ (c : Int) = 0 := by omega
        have kk2 : (r : Int) < 7 := by omega
        have kk3 : ¬ (r : Int) = 7 := by omega
        have ev : 8 * (r : Int) + (c : Int) = 8 * (r : Int) + (c : Int) := by omega
        rw [ev] at HN
        clear ev
        have hsz := Hnx.out.size
        have HO := Lib.hid (Hown.out.alloc (.cells #[.int .i64 (8 * (r : Int) + (c : Int))] 3))
        go_wp2_with (at_builtin; go_must (refine wpList_append_own _ rfl _ _ 22 rfl w.heap.size 3 i0 (.int .i64 0) 1 8 Try.underlying22 hi hz0 hz1 hz2 rfl (by decide) _ (k) _ rfl HO.out ⟨wr.heap.size, 0, none⟩ 1 1 [.int .i64 (8 * (r : Int) + (c : Int))] rfl rfl (cell_one_new _ _ _) (ints_oneCell .i64 [(8 * (r : Int) + (c : Int))]) (by unfold maxLen; omega) (by omega) (by simp; omega) ?_; intro v' w3 hown hg hnil; have Hown' := Lib.hid hown; have Hgr := Lib.hid hg; clear hown hg hnil))
        go_roundg (64 - (k + 1))
        case measure => have := Hg.out; omega
        case rel =>
          refine ⟨k + 1, by omega, rfl, by go_num, by rw [HT.out]; go_num, by rw [HT.out]; go_num, ?_, ?_⟩
          · have := Hown'.out
            rw [← List.map_singleton, ← List.map_append] at this
            rw [show dm.zzL.take (k + 1) = dm.zzL.take k ++ [8 * (r : Int) + (c : Int)] from HN.out.symm]
            exact this
          · refine (Hnx.out.alloc hsz _).grown Hgr.out (by simp; omega) ?_
            intro j hj
            exact (Hown.out.lt j hj).1
    · obtain rfl : k = 64 := by omega
      have HZ : Hid (wr.ownsRow w.heap.size 3 1 _ 64 (dm.zzL.map (Value.int .i64))) := Lib.hid Hown.out
      go_wp2_with fail
      go_ret
      exact ⟨_, rfl, fresh_own HZ.out (by decide), Hnx.out⟩
end Go.Proofs.Ytdpccgnmlfakfaa

