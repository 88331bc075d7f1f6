/- The law PointsTwice, walked. -/
import Derived.Test.YtdemndjenlhahaaTwice0
import Derived.Test.YtdemndjenlhahaaPtWakes
import Derived.SizedLaws
namespace Go.Proofs.Ytdemndjenlhahaa
open Go.RowKit Go.Sort Go.ChangeShapes Go.WideShapes

theorem reach_u16 {cap : Nat} (z : cap * Try.prog.bytesOf 31 ≤ reachBytes) : cap * 2 ≤ 140737488351232 := by
  have h : Try.prog.bytesOf 31 = 2 := by kernel_rfl
  rw [h] at z
  unfold reachBytes at z
  omega

theorem twice_k (x : Int) : 2 ≤ wrap64 (2 + wrap64 ((IntKind.u64.wrap x).tmod 255)) ∧ wrap64 (2 + wrap64 ((IntKind.u64.wrap x).tmod 255)) ≤ 256 := by
  have h0 : 0 ≤ IntKind.u64.wrap x := by
    unfold IntKind.wrap
    simp [IntKind.signed, IntKind.bits]
    omega
  have h1 := Int.tmod_eq_emod_of_nonneg (b := 255) h0
  have h2 := Int.emod_nonneg (IntKind.u64.wrap x) (show (255 : Int) ≠ 0 by decide)
  have h3 := Int.emod_lt_of_pos (IntKind.u64.wrap x) (show (0 : Int) < 255 by decide)
  rw [h1]
  generalize IntKind.u64.wrap x % 255 = y at *
  have e1 : wrap64 y = y := by unfold wrap64; omega
  rw [e1]
  have e2 : wrap64 (2 + y) = 2 + y := by unfold wrap64; omega
  rw [e2]
  omega
theorem len_out {k : Nat} {a l : List Int} {w m : Nat} (h : m = 4 * (m / 4)) : (pm.out k a l w (m / 4)).length = m := by rw [pm.out_length]; exact h.symm
theorem wf_one {v : Int} (h0 : -9223372036854775808 ≤ v) (h1 : v ≤ 9223372036854775807) : ∀ x ∈ [v], (Lit.int .i64 x).wf = true := by
  intro x hx
  obtain rfl : x = v := by simpa using hx
  simp [Lit.wf, IntKind.min, IntKind.max, IntKind.bits, IntKind.signed]
  omega
theorem okA_post {k : Int} (h1 : 2 ≤ k) (h2 : k ≤ 256) : pm.okA 7 [k] := ⟨⟨h1, h2, trivial⟩, fun h => absurd h.1 (by decide), fun h => absurd h.1 (by decide)⟩
theorem okA_thr {k : Int} (h1 : 2 ≤ k) (h2 : k ≤ 256) : pm.okA 2 [k * 255] := ⟨⟨by show (0 : Int) ≤ k * 255; omega, by show k * 255 ≤ (65535 : Int); omega, trivial⟩, fun h => absurd h.1 (by decide), fun h => absurd h.1 (by decide)⟩
theorem Sl.setRow {w : World} {p : Option Addr} {n cap : Nat} {l : List Int} {b : Nat} {X Y : Int} {p' : Option Addr} {n' c' : Nat} {t : TypeId} (h : Sl .u16 w p n cap l) (hb : w.heap[b]? = some (.cells #[.int .i64 X, .int .i64 Y, .slice p' n' c'] t)) (cs : Array Value) : Sl .u16 (w.setRow b cs) p n cap l := by
  refine ⟨h.len, h.fits, h.most, h.bare, h.wf, ?_⟩
  rcases h.rd with h0 | ⟨g, off, rfl, hc⟩
  · exact .inl h0
  · refine .inr ⟨g, off, rfl, fun i hi => ?_⟩
    have hne : g ≠ b := by
      rintro rfl
      have := hc i hi
      rw [cell_of_row _ _ _ _ _ (0, 0) hb] at this
      match off + i, this with
      | 0, this => simp at this
      | 1, this => simp at this
      | 2, this => simp at this
      | j + 3, this => simp at this
    rw [World.cell?_of_block (setRow_other w b g cs hne)]
    exact hc i hi

set_option maxRecDepth 100000 in
set_option maxHeartbeats 3200000 in
theorem pointsTwice_walk (W H : Int) (q : Option Addr) (m mcap : Nat) (l : List Int) (x : Int) (w : World) (s : Sl .u16 w q m mcap l) (z : mcap * Try.prog.bytesOf 31 ≤ reachBytes) :
    Calls Try.prog 6 #[.agg #[.int .i64 W, .int .i64 H, .slice q m mcap], .int .i64 x] w fun e w' => e = .returned (.bool true) ∧ Below w.heap.size w w' := by
  have z' := reach_u16 z
  have hm2 : m * 2 ≤ 140737488355328 := by have := s.fits; omega
  have BW := Lib.hid ((Below.refl w.heap.size w).alloc (Nat.le_refl _) (.cells #[.int .i64 W, .int .i64 H, .slice q m mcap] 41))
  have F0 := Lib.hid (heap_alloc_last w (.cells #[.int .i64 W, .int .i64 H, .slice q m mcap] 41))
  have SM := Lib.hid s
  clear s z z'
  go_enter Try.func6, Try.ntmps6
  go_wp2_with fail
  refine (wakes_any _).mono ?_
  rintro e w1 ⟨rfl, hb⟩
  replace F0 := Lib.hid ((hb.block _ (block_lt F0.out)).trans F0.out)
  replace BW := Lib.hid (BW.out.trans (hb.mono BW.out.size))
  clear hb
  go_wp2_with (with_reducible refine wpList_load_row rfl 41 _ rfl w.heap.size rfl 41 _ (0, 0) _ F0.out Try.underlying41 rfl (imgSize3 _ _ _) ?_)
  refine (refGood_any W H q m mcap _).mono ?_
  rintro e w2 ⟨rfl, hb⟩
  replace F0 := Lib.hid ((hb.block _ (block_lt F0.out)).trans F0.out)
  replace BW := Lib.hid (BW.out.trans (hb.mono BW.out.size))
  clear hb
  by_cases hg : goodB W H m = true
  · rw [hg]
    have HG := Lib.hid hg
    clear hg
    have hk := twice_k x
    have hgl := good_len HG.out
    have HW := Lib.hid hgl.1
    have HMM := Lib.hid hgl.2
    have HLM : Hid (l.length = m) := Lib.hid SM.out.len
    have HLN : Hid (l.length = 4 * (m / 4)) := Lib.hid (by rw [SM.out.len]; exact hgl.2)
    obtain ⟨nn, hnn⟩ : ∃ nn, m / 4 = nn := ⟨_, rfl⟩
    obtain ⟨ww, hww⟩ : ∃ ww, W.toNat = ww := ⟨_, rfl⟩
    have HNN := Lib.hid hnn
    have HWW := Lib.hid hww
    rw [hnn] at HLN
    have HU := Lib.hid SM.out.u16s
    clear hgl hnn hww
    go_wp2_with (first | (with_reducible refine wpList_load_row rfl 41 _ rfl (w.heap.size) rfl 41 _ (0, 0) _ F0.out Try.underlying41 rfl (imgSize3 _ _ _) ?_))
    obtain ⟨kv, hkv⟩ : ∃ kv, wrap64 (2 + wrap64 ((IntKind.u64.wrap x).tmod 255)) = kv := ⟨_, rfl⟩
    rw [hkv] at hk ⊢
    clear hkv
    obtain ⟨hk1, hk2⟩ := hk
    refine (own_res W H q m mcap l _ (SM.out.below BW.out) hm2).mono ?_
    rintro e w3 ⟨p3, c3, rfl, hs, hb⟩
    rw [HLM.out] at hs
    rw [HLM.out]
    have S3 := Lib.hid hs
    replace F0 := Lib.hid ((hb.block _ (block_lt F0.out)).trans F0.out)
    replace BW := Lib.hid (BW.out.trans (hb.mono BW.out.size))
    clear hb hs
    go_wp2_with (first | (with_reducible refine wpList_load_row rfl 41 _ rfl (w.heap.size) rfl 41 _ (0, 0) _ F0.out Try.underlying41 rfl (imgSize3 _ _ _) ?_))
    refine (apply_ok ⟨#[105, 110, 118, 101, 114, 116]⟩ 0 (by decide +kernel) none 0 0 [] W H p3 m c3 l _ Sl.nil S3.out (by decide) HG.out).mono ?_
    rintro e w4 ⟨p4, c4, rfl, hs, hb⟩
    rw [len_out HMM.out] at hs
    rw [len_out HMM.out]
    have S4 := Lib.hid hs
    replace F0 := Lib.hid ((hb.block _ (block_lt F0.out)).trans F0.out)
    replace BW := Lib.hid (BW.out.trans (hb.mono BW.out.size))
    clear hb hs
    have HF0 := F0
    have hbA := (Below.refl w4.heap.size w4).alloc (Nat.le_refl _) (.cells #[.int .i64 W, .int .i64 H, .slice p4 m c4] 41)
    replace F0 := Lib.hid ((hbA.block _ (block_lt F0.out)).trans F0.out)
    replace S4 := Lib.hid (S4.out.below hbA)
    replace BW := Lib.hid (BW.out.trans (hbA.mono BW.out.size))
    have HNE : Hid (w.heap.size < w4.heap.size) := Lib.hid (block_lt HF0.out)
    have F4 := Lib.hid (heap_alloc_last w4 (.cells #[.int .i64 W, .int .i64 H, .slice p4 m c4] 41))
    clear hbA
    go_wp2_with (first | (with_reducible refine wpList_store_row rfl 41 _ _ rfl w4.heap.size _ rfl rfl 41 _ (heap_alloc_last _ _) (imgSize3 _ _ _) (imgSz _ _ _ _ _ _) (imgOne _ _ _ _ _) ?_; rw [World.setRow_alloc_new]) | (with_reducible refine wpList_load_row rfl 41 _ rfl (w.heap.size) rfl 41 _ (0, 0) _ F0.out Try.underlying41 rfl (imgSize3 _ _ _) ?_) | (with_reducible refine wpList_load_row rfl 41 _ rfl (w4.heap.size) rfl 41 _ (0, 0) _ F4.out Try.underlying41 rfl (imgSize3 _ _ _) ?_))
    refine (apply_ok ⟨#[105, 110, 118, 101, 114, 116]⟩ 0 (by decide +kernel) none 0 0 [] W H p4 m c4 (pm.out 0 [] l W.toNat (m / 4)) _ Sl.nil S4.out (by decide) HG.out).mono ?_
    rintro e w5 ⟨p5, c5, rfl, hs, hb⟩
    rw [len_out HMM.out] at hs
    rw [len_out HMM.out]
    replace F0 := Lib.hid ((hb.block _ (block_lt F0.out)).trans F0.out)
    replace F4 := Lib.hid ((hb.block _ (block_lt F4.out)).trans F4.out)
    replace BW := Lib.hid (BW.out.trans (hb.mono BW.out.size))
    have hne : w.heap.size < w4.heap.size := HNE.out
    have S5 := Lib.hid (Sl.setRow hs F4.out #[.int .i64 W, .int .i64 H, .slice p5 m c5])
    replace F0 := Lib.hid ((setRow_other w5 w4.heap.size w.heap.size #[.int .i64 W, .int .i64 H, .slice p5 m c5] (by omega)).trans F0.out)
    replace BW := Lib.hid (below_setRow BW.out (Nat.le_of_lt hne) #[.int .i64 W, .int .i64 H, .slice p5 m c5])
    have FX := Lib.hid (setRow_heap w5 w4.heap.size _ #[.int .i64 W, .int .i64 H, .slice p5 m c5] _ _ F4.out)
    have F4O := F4
    clear hb hs hne F4
    have hbB := (Below.refl (w5.setRow w4.heap.size #[.int .i64 W, .int .i64 H, .slice p5 m c5]).heap.size (w5.setRow w4.heap.size #[.int .i64 W, .int .i64 H, .slice p5 m c5])).alloc (Nat.le_refl _) (.cells #[.int .i64 (kv)] 3)
    replace F0 := Lib.hid ((hbB.block _ (block_lt F0.out)).trans F0.out)
    replace FX := Lib.hid ((hbB.block _ (block_lt FX.out)).trans FX.out)
    replace S5 := Lib.hid (S5.out.below hbB)
    replace BW := Lib.hid (BW.out.trans (hbB.mono BW.out.size))
    have SA : Hid (Sl .i64 ((w5.setRow w4.heap.size #[.int .i64 W, .int .i64 H, .slice p5 m c5]).alloc (.cells #[.int .i64 (kv)] 3)) (some ⟨w5.heap.size, 0, none⟩) 1 1 [kv]) := Lib.hid (sl_new (w5.setRow w4.heap.size #[.int .i64 W, .int .i64 H, .slice p5 m c5]) [kv] 3 (w5.heap.size) (by simp [World.setRow]) (by show 1 ≤ maxLen; unfold maxLen; omega) (wf_one (by omega) (by omega)))
    clear hbB
    go_wp2_with (first | (with_reducible refine wpList_store_row rfl 41 _ _ rfl w4.heap.size _ rfl rfl 41 _ F4O.out (imgSize3 _ _ _) (imgSz _ _ _ _ _ _) (imgOne _ _ _ _ _) ?_) | (with_reducible refine wpList_load_row rfl 41 _ rfl (w.heap.size) rfl 41 _ (0, 0) _ F0.out Try.underlying41 rfl (imgSize3 _ _ _) ?_) | (with_reducible refine wpList_load_row rfl 41 _ rfl (w4.heap.size) rfl 41 _ (0, 0) _ FX.out Try.underlying41 rfl (imgSize3 _ _ _) ?_))
    refine (own_res W H q m mcap l _ (SM.out.below BW.out) hm2).mono ?_
    rintro e w6 ⟨p6, c6, rfl, hs, hb⟩
    rw [HLM.out] at hs
    rw [HLM.out]
    have S6 := Lib.hid hs
    replace F0 := Lib.hid ((hb.block _ (block_lt F0.out)).trans F0.out)
    replace FX := Lib.hid ((hb.block _ (block_lt FX.out)).trans FX.out)
    replace S5 := Lib.hid (S5.out.below hb)
    replace SA := Lib.hid (SA.out.below hb)
    replace BW := Lib.hid (BW.out.trans (hb.mono BW.out.size))
    clear hb hs
    go_wp2_with (first | (with_reducible refine wpList_load_row rfl 41 _ rfl (w.heap.size) rfl 41 _ (0, 0) _ F0.out Try.underlying41 rfl (imgSize3 _ _ _) ?_) | (with_reducible refine wpList_load_row rfl 41 _ rfl (w4.heap.size) rfl 41 _ (0, 0) _ FX.out Try.underlying41 rfl (imgSize3 _ _ _) ?_))
    refine (apply_ok ⟨#[112, 111, 115, 116, 101, 114, 105, 122, 101]⟩ 7 (by decide +kernel) _ _ _ [kv] W H p6 m c6 l _ SA.out S6.out (okA_post hk1 hk2) HG.out).mono ?_
    rintro e w7 ⟨p7, c7, rfl, hs, hb⟩
    rw [len_out HMM.out] at hs
    rw [len_out HMM.out]
    have S7 := Lib.hid hs
    replace F0 := Lib.hid ((hb.block _ (block_lt F0.out)).trans F0.out)
    replace FX := Lib.hid ((hb.block _ (block_lt FX.out)).trans FX.out)
    replace S5 := Lib.hid (S5.out.below hb)
    replace BW := Lib.hid (BW.out.trans (hb.mono BW.out.size))
    clear hb hs
    have hbA := (Below.refl w7.heap.size w7).alloc (Nat.le_refl _) (.cells #[.int .i64 W, .int .i64 H, .slice p7 m c7] 41)
    replace F0 := Lib.hid ((hbA.block _ (block_lt F0.out)).trans F0.out)
    replace FX := Lib.hid ((hbA.block _ (block_lt FX.out)).trans FX.out)
    replace S5 := Lib.hid (S5.out.below hbA)
    replace S7 := Lib.hid (S7.out.below hbA)
    replace BW := Lib.hid (BW.out.trans (hbA.mono BW.out.size))
    have F7 := Lib.hid (heap_alloc_last w7 (.cells #[.int .i64 W, .int .i64 H, .slice p7 m c7] 41))
    clear hbA
    have hbB := (Below.refl (w7.alloc (.cells #[.int .i64 W, .int .i64 H, .slice p7 m c7] 41)).heap.size (w7.alloc (.cells #[.int .i64 W, .int .i64 H, .slice p7 m c7] 41))).alloc (Nat.le_refl _) (.cells #[.int .i64 (kv)] 3)
    replace F0 := Lib.hid ((hbB.block _ (block_lt F0.out)).trans F0.out)
    replace FX := Lib.hid ((hbB.block _ (block_lt FX.out)).trans FX.out)
    replace F7 := Lib.hid ((hbB.block _ (block_lt F7.out)).trans F7.out)
    replace S5 := Lib.hid (S5.out.below hbB)
    replace S7 := Lib.hid (S7.out.below hbB)
    replace BW := Lib.hid (BW.out.trans (hbB.mono BW.out.size))
    have SA : Hid (Sl .i64 ((w7.alloc (.cells #[.int .i64 W, .int .i64 H, .slice p7 m c7] 41)).alloc (.cells #[.int .i64 (kv)] 3)) (some ⟨w7.heap.size + 1, 0, none⟩) 1 1 [kv]) := Lib.hid (sl_new (w7.alloc (.cells #[.int .i64 W, .int .i64 H, .slice p7 m c7] 41)) [kv] 3 (w7.heap.size + 1) (by simp) (by show 1 ≤ maxLen; unfold maxLen; omega) (wf_one (by omega) (by omega)))
    clear hbB
    go_wp2_with (first | (with_reducible refine wpList_store_row rfl 41 _ _ rfl w7.heap.size _ rfl rfl 41 _ (heap_alloc_last _ _) (imgSize3 _ _ _) (imgSz _ _ _ _ _ _) (imgOne _ _ _ _ _) ?_; rw [World.setRow_alloc_new]) | (with_reducible refine wpList_load_row rfl 41 _ rfl (w.heap.size) rfl 41 _ (0, 0) _ F0.out Try.underlying41 rfl (imgSize3 _ _ _) ?_) | (with_reducible refine wpList_load_row rfl 41 _ rfl (w4.heap.size) rfl 41 _ (0, 0) _ FX.out Try.underlying41 rfl (imgSize3 _ _ _) ?_) | (with_reducible refine wpList_load_row rfl 41 _ rfl (w7.heap.size) rfl 41 _ (0, 0) _ F7.out Try.underlying41 rfl (imgSize3 _ _ _) ?_))
    refine (own_res W H p7 m c7 (pm.out 7 [kv] l W.toNat (m / 4)) _ S7.out hm2).mono ?_
    rintro e w8 ⟨p8, c8, rfl, hs, hb⟩
    rw [len_out HMM.out] at hs
    rw [len_out HMM.out]
    have S8 := Lib.hid hs
    replace F0 := Lib.hid ((hb.block _ (block_lt F0.out)).trans F0.out)
    replace FX := Lib.hid ((hb.block _ (block_lt FX.out)).trans FX.out)
    replace F7 := Lib.hid ((hb.block _ (block_lt F7.out)).trans F7.out)
    replace S5 := Lib.hid (S5.out.below hb)
    replace S7 := Lib.hid (S7.out.below hb)
    replace SA := Lib.hid (SA.out.below hb)
    replace BW := Lib.hid (BW.out.trans (hb.mono BW.out.size))
    clear hb hs
    go_wp2_with (first | (with_reducible refine wpList_load_row rfl 41 _ rfl (w.heap.size) rfl 41 _ (0, 0) _ F0.out Try.underlying41 rfl (imgSize3 _ _ _) ?_) | (with_reducible refine wpList_load_row rfl 41 _ rfl (w4.heap.size) rfl 41 _ (0, 0) _ FX.out Try.underlying41 rfl (imgSize3 _ _ _) ?_) | (with_reducible refine wpList_load_row rfl 41 _ rfl (w7.heap.size) rfl 41 _ (0, 0) _ F7.out Try.underlying41 rfl (imgSize3 _ _ _) ?_))
    refine (apply_ok ⟨#[112, 111, 115, 116, 101, 114, 105, 122, 101]⟩ 7 (by decide +kernel) _ _ _ [kv] W H p8 m c8 (pm.out 7 [kv] l W.toNat (m / 4)) _ SA.out S8.out (okA_post hk1 hk2) HG.out).mono ?_
    rintro e w9 ⟨p9, c9, rfl, hs, hb⟩
    rw [len_out HMM.out] at hs
    rw [len_out HMM.out]
    have S9 := Lib.hid hs
    replace F0 := Lib.hid ((hb.block _ (block_lt F0.out)).trans F0.out)
    replace FX := Lib.hid ((hb.block _ (block_lt FX.out)).trans FX.out)
    replace F7 := Lib.hid ((hb.block _ (block_lt F7.out)).trans F7.out)
    replace S5 := Lib.hid (S5.out.below hb)
    replace S7 := Lib.hid (S7.out.below hb)
    replace BW := Lib.hid (BW.out.trans (hb.mono BW.out.size))
    clear hb hs
    have hbA := (Below.refl w9.heap.size w9).alloc (Nat.le_refl _) (.cells #[.int .i64 W, .int .i64 H, .slice p9 m c9] 41)
    replace F0 := Lib.hid ((hbA.block _ (block_lt F0.out)).trans F0.out)
    replace FX := Lib.hid ((hbA.block _ (block_lt FX.out)).trans FX.out)
    replace F7 := Lib.hid ((hbA.block _ (block_lt F7.out)).trans F7.out)
    replace S5 := Lib.hid (S5.out.below hbA)
    replace S7 := Lib.hid (S7.out.below hbA)
    replace S9 := Lib.hid (S9.out.below hbA)
    replace BW := Lib.hid (BW.out.trans (hbA.mono BW.out.size))
    have F9 := Lib.hid (heap_alloc_last w9 (.cells #[.int .i64 W, .int .i64 H, .slice p9 m c9] 41))
    clear hbA
    have hbB := (Below.refl (w9.alloc (.cells #[.int .i64 W, .int .i64 H, .slice p9 m c9] 41)).heap.size (w9.alloc (.cells #[.int .i64 W, .int .i64 H, .slice p9 m c9] 41))).alloc (Nat.le_refl _) (.cells #[.int .i64 (kv * 255)] 3)
    replace F0 := Lib.hid ((hbB.block _ (block_lt F0.out)).trans F0.out)
    replace FX := Lib.hid ((hbB.block _ (block_lt FX.out)).trans FX.out)
    replace F7 := Lib.hid ((hbB.block _ (block_lt F7.out)).trans F7.out)
    replace F9 := Lib.hid ((hbB.block _ (block_lt F9.out)).trans F9.out)
    replace S5 := Lib.hid (S5.out.below hbB)
    replace S7 := Lib.hid (S7.out.below hbB)
    replace S9 := Lib.hid (S9.out.below hbB)
    replace BW := Lib.hid (BW.out.trans (hbB.mono BW.out.size))
    have SA : Hid (Sl .i64 ((w9.alloc (.cells #[.int .i64 W, .int .i64 H, .slice p9 m c9] 41)).alloc (.cells #[.int .i64 (kv * 255)] 3)) (some ⟨w9.heap.size + 1, 0, none⟩) 1 1 [kv * 255]) := Lib.hid (sl_new (w9.alloc (.cells #[.int .i64 W, .int .i64 H, .slice p9 m c9] 41)) [kv * 255] 3 (w9.heap.size + 1) (by simp) (by show 1 ≤ maxLen; unfold maxLen; omega) (wf_one (by omega) (by omega)))
    clear hbB
    go_wp2_with (first | (with_reducible refine wpList_store_row rfl 41 _ _ rfl w9.heap.size _ rfl rfl 41 _ (heap_alloc_last _ _) (imgSize3 _ _ _) (imgSz _ _ _ _ _ _) (imgOne _ _ _ _ _) ?_; rw [World.setRow_alloc_new]) | (with_reducible refine wpList_load_row rfl 41 _ rfl (w.heap.size) rfl 41 _ (0, 0) _ F0.out Try.underlying41 rfl (imgSize3 _ _ _) ?_) | (with_reducible refine wpList_load_row rfl 41 _ rfl (w4.heap.size) rfl 41 _ (0, 0) _ FX.out Try.underlying41 rfl (imgSize3 _ _ _) ?_) | (with_reducible refine wpList_load_row rfl 41 _ rfl (w7.heap.size) rfl 41 _ (0, 0) _ F7.out Try.underlying41 rfl (imgSize3 _ _ _) ?_) | (with_reducible refine wpList_load_row rfl 41 _ rfl (w9.heap.size) rfl 41 _ (0, 0) _ F9.out Try.underlying41 rfl (imgSize3 _ _ _) ?_))
    refine (own_res W H q m mcap l _ (SM.out.below BW.out) hm2).mono ?_
    rintro e w10 ⟨p10, c10, rfl, hs, hb⟩
    rw [HLM.out] at hs
    rw [HLM.out]
    have S10 := Lib.hid hs
    replace F0 := Lib.hid ((hb.block _ (block_lt F0.out)).trans F0.out)
    replace FX := Lib.hid ((hb.block _ (block_lt FX.out)).trans FX.out)
    replace F7 := Lib.hid ((hb.block _ (block_lt F7.out)).trans F7.out)
    replace F9 := Lib.hid ((hb.block _ (block_lt F9.out)).trans F9.out)
    replace S5 := Lib.hid (S5.out.below hb)
    replace S7 := Lib.hid (S7.out.below hb)
    replace S9 := Lib.hid (S9.out.below hb)
    replace SA := Lib.hid (SA.out.below hb)
    replace BW := Lib.hid (BW.out.trans (hb.mono BW.out.size))
    clear hb hs
    go_wp2_with (first | (with_reducible refine wpList_load_row rfl 41 _ rfl (w.heap.size) rfl 41 _ (0, 0) _ F0.out Try.underlying41 rfl (imgSize3 _ _ _) ?_) | (with_reducible refine wpList_load_row rfl 41 _ rfl (w4.heap.size) rfl 41 _ (0, 0) _ FX.out Try.underlying41 rfl (imgSize3 _ _ _) ?_) | (with_reducible refine wpList_load_row rfl 41 _ rfl (w7.heap.size) rfl 41 _ (0, 0) _ F7.out Try.underlying41 rfl (imgSize3 _ _ _) ?_) | (with_reducible refine wpList_load_row rfl 41 _ rfl (w9.heap.size) rfl 41 _ (0, 0) _ F9.out Try.underlying41 rfl (imgSize3 _ _ _) ?_))
    refine (apply_ok ⟨#[116, 104, 114, 101, 115, 104, 111, 108, 100]⟩ 2 (by decide +kernel) _ _ _ [kv * 255] W H p10 m c10 l _ SA.out S10.out (okA_thr hk1 hk2) HG.out).mono ?_
    rintro e w11 ⟨p11, c11, rfl, hs, hb⟩
    rw [len_out HMM.out] at hs
    rw [len_out HMM.out]
    have S11 := Lib.hid hs
    replace F0 := Lib.hid ((hb.block _ (block_lt F0.out)).trans F0.out)
    replace FX := Lib.hid ((hb.block _ (block_lt FX.out)).trans FX.out)
    replace F7 := Lib.hid ((hb.block _ (block_lt F7.out)).trans F7.out)
    replace F9 := Lib.hid ((hb.block _ (block_lt F9.out)).trans F9.out)
    replace S5 := Lib.hid (S5.out.below hb)
    replace S7 := Lib.hid (S7.out.below hb)
    replace S9 := Lib.hid (S9.out.below hb)
    replace BW := Lib.hid (BW.out.trans (hb.mono BW.out.size))
    clear hb hs
    have hbA := (Below.refl w11.heap.size w11).alloc (Nat.le_refl _) (.cells #[.int .i64 W, .int .i64 H, .slice p11 m c11] 41)
    replace F0 := Lib.hid ((hbA.block _ (block_lt F0.out)).trans F0.out)
    replace FX := Lib.hid ((hbA.block _ (block_lt FX.out)).trans FX.out)
    replace F7 := Lib.hid ((hbA.block _ (block_lt F7.out)).trans F7.out)
    replace F9 := Lib.hid ((hbA.block _ (block_lt F9.out)).trans F9.out)
    replace S5 := Lib.hid (S5.out.below hbA)
    replace S7 := Lib.hid (S7.out.below hbA)
    replace S9 := Lib.hid (S9.out.below hbA)
    replace S11 := Lib.hid (S11.out.below hbA)
    replace BW := Lib.hid (BW.out.trans (hbA.mono BW.out.size))
    have F11 := Lib.hid (heap_alloc_last w11 (.cells #[.int .i64 W, .int .i64 H, .slice p11 m c11] 41))
    clear hbA
    have hbB := (Below.refl (w11.alloc (.cells #[.int .i64 W, .int .i64 H, .slice p11 m c11] 41)).heap.size (w11.alloc (.cells #[.int .i64 W, .int .i64 H, .slice p11 m c11] 41))).alloc (Nat.le_refl _) (.cells #[.int .i64 (kv * 255)] 3)
    replace F0 := Lib.hid ((hbB.block _ (block_lt F0.out)).trans F0.out)
    replace FX := Lib.hid ((hbB.block _ (block_lt FX.out)).trans FX.out)
    replace F7 := Lib.hid ((hbB.block _ (block_lt F7.out)).trans F7.out)
    replace F9 := Lib.hid ((hbB.block _ (block_lt F9.out)).trans F9.out)
    replace F11 := Lib.hid ((hbB.block _ (block_lt F11.out)).trans F11.out)
    replace S5 := Lib.hid (S5.out.below hbB)
    replace S7 := Lib.hid (S7.out.below hbB)
    replace S9 := Lib.hid (S9.out.below hbB)
    replace S11 := Lib.hid (S11.out.below hbB)
    replace BW := Lib.hid (BW.out.trans (hbB.mono BW.out.size))
    have SA : Hid (Sl .i64 ((w11.alloc (.cells #[.int .i64 W, .int .i64 H, .slice p11 m c11] 41)).alloc (.cells #[.int .i64 (kv * 255)] 3)) (some ⟨w11.heap.size + 1, 0, none⟩) 1 1 [kv * 255]) := Lib.hid (sl_new (w11.alloc (.cells #[.int .i64 W, .int .i64 H, .slice p11 m c11] 41)) [kv * 255] 3 (w11.heap.size + 1) (by simp) (by show 1 ≤ maxLen; unfold maxLen; omega) (wf_one (by omega) (by omega)))
    clear hbB
    go_wp2_with (first | (with_reducible refine wpList_store_row rfl 41 _ _ rfl w11.heap.size _ rfl rfl 41 _ (heap_alloc_last _ _) (imgSize3 _ _ _) (imgSz _ _ _ _ _ _) (imgOne _ _ _ _ _) ?_; rw [World.setRow_alloc_new]) | (with_reducible refine wpList_load_row rfl 41 _ rfl (w.heap.size) rfl 41 _ (0, 0) _ F0.out Try.underlying41 rfl (imgSize3 _ _ _) ?_) | (with_reducible refine wpList_load_row rfl 41 _ rfl (w4.heap.size) rfl 41 _ (0, 0) _ FX.out Try.underlying41 rfl (imgSize3 _ _ _) ?_) | (with_reducible refine wpList_load_row rfl 41 _ rfl (w7.heap.size) rfl 41 _ (0, 0) _ F7.out Try.underlying41 rfl (imgSize3 _ _ _) ?_) | (with_reducible refine wpList_load_row rfl 41 _ rfl (w9.heap.size) rfl 41 _ (0, 0) _ F9.out Try.underlying41 rfl (imgSize3 _ _ _) ?_) | (with_reducible refine wpList_load_row rfl 41 _ rfl (w11.heap.size) rfl 41 _ (0, 0) _ F11.out Try.underlying41 rfl (imgSize3 _ _ _) ?_))
    refine (own_res W H p11 m c11 (pm.out 2 [kv * 255] l W.toNat (m / 4)) _ S11.out hm2).mono ?_
    rintro e w12 ⟨p12, c12, rfl, hs, hb⟩
    rw [len_out HMM.out] at hs
    rw [len_out HMM.out]
    have S12 := Lib.hid hs
    replace F0 := Lib.hid ((hb.block _ (block_lt F0.out)).trans F0.out)
    replace FX := Lib.hid ((hb.block _ (block_lt FX.out)).trans FX.out)
    replace F7 := Lib.hid ((hb.block _ (block_lt F7.out)).trans F7.out)
    replace F9 := Lib.hid ((hb.block _ (block_lt F9.out)).trans F9.out)
    replace F11 := Lib.hid ((hb.block _ (block_lt F11.out)).trans F11.out)
    replace S5 := Lib.hid (S5.out.below hb)
    replace S7 := Lib.hid (S7.out.below hb)
    replace S9 := Lib.hid (S9.out.below hb)
    replace S11 := Lib.hid (S11.out.below hb)
    replace SA := Lib.hid (SA.out.below hb)
    replace BW := Lib.hid (BW.out.trans (hb.mono BW.out.size))
    clear hb hs
    go_wp2_with (first | (with_reducible refine wpList_load_row rfl 41 _ rfl (w.heap.size) rfl 41 _ (0, 0) _ F0.out Try.underlying41 rfl (imgSize3 _ _ _) ?_) | (with_reducible refine wpList_load_row rfl 41 _ rfl (w4.heap.size) rfl 41 _ (0, 0) _ FX.out Try.underlying41 rfl (imgSize3 _ _ _) ?_) | (with_reducible refine wpList_load_row rfl 41 _ rfl (w7.heap.size) rfl 41 _ (0, 0) _ F7.out Try.underlying41 rfl (imgSize3 _ _ _) ?_) | (with_reducible refine wpList_load_row rfl 41 _ rfl (w9.heap.size) rfl 41 _ (0, 0) _ F9.out Try.underlying41 rfl (imgSize3 _ _ _) ?_) | (with_reducible refine wpList_load_row rfl 41 _ rfl (w11.heap.size) rfl 41 _ (0, 0) _ F11.out Try.underlying41 rfl (imgSize3 _ _ _) ?_))
    refine (apply_ok ⟨#[116, 104, 114, 101, 115, 104, 111, 108, 100]⟩ 2 (by decide +kernel) _ _ _ [kv * 255] W H p12 m c12 (pm.out 2 [kv * 255] l W.toNat (m / 4)) _ SA.out S12.out (okA_thr hk1 hk2) HG.out).mono ?_
    rintro e w13 ⟨p13, c13, rfl, hs, hb⟩
    rw [len_out HMM.out] at hs
    rw [len_out HMM.out]
    have S13 := Lib.hid hs
    replace F0 := Lib.hid ((hb.block _ (block_lt F0.out)).trans F0.out)
    replace FX := Lib.hid ((hb.block _ (block_lt FX.out)).trans FX.out)
    replace F7 := Lib.hid ((hb.block _ (block_lt F7.out)).trans F7.out)
    replace F9 := Lib.hid ((hb.block _ (block_lt F9.out)).trans F9.out)
    replace F11 := Lib.hid ((hb.block _ (block_lt F11.out)).trans F11.out)
    replace S5 := Lib.hid (S5.out.below hb)
    replace S7 := Lib.hid (S7.out.below hb)
    replace S9 := Lib.hid (S9.out.below hb)
    replace S11 := Lib.hid (S11.out.below hb)
    replace BW := Lib.hid (BW.out.trans (hb.mono BW.out.size))
    clear hb hs
    have hbA := (Below.refl w13.heap.size w13).alloc (Nat.le_refl _) (.cells #[.int .i64 W, .int .i64 H, .slice p13 m c13] 41)
    replace F0 := Lib.hid ((hbA.block _ (block_lt F0.out)).trans F0.out)
    replace FX := Lib.hid ((hbA.block _ (block_lt FX.out)).trans FX.out)
    replace F7 := Lib.hid ((hbA.block _ (block_lt F7.out)).trans F7.out)
    replace F9 := Lib.hid ((hbA.block _ (block_lt F9.out)).trans F9.out)
    replace F11 := Lib.hid ((hbA.block _ (block_lt F11.out)).trans F11.out)
    replace S5 := Lib.hid (S5.out.below hbA)
    replace S7 := Lib.hid (S7.out.below hbA)
    replace S9 := Lib.hid (S9.out.below hbA)
    replace S11 := Lib.hid (S11.out.below hbA)
    replace S13 := Lib.hid (S13.out.below hbA)
    replace BW := Lib.hid (BW.out.trans (hbA.mono BW.out.size))
    have F13 := Lib.hid (heap_alloc_last w13 (.cells #[.int .i64 W, .int .i64 H, .slice p13 m c13] 41))
    clear hbA
    go_wp2_with (first | (with_reducible refine wpList_store_row rfl 41 _ _ rfl w13.heap.size _ rfl rfl 41 _ (heap_alloc_last _ _) (imgSize3 _ _ _) (imgSz _ _ _ _ _ _) (imgOne _ _ _ _ _) ?_; rw [World.setRow_alloc_new]) | (with_reducible refine wpList_load_row rfl 41 _ rfl (w.heap.size) rfl 41 _ (0, 0) _ F0.out Try.underlying41 rfl (imgSize3 _ _ _) ?_) | (with_reducible refine wpList_load_row rfl 41 _ rfl (w4.heap.size) rfl 41 _ (0, 0) _ FX.out Try.underlying41 rfl (imgSize3 _ _ _) ?_) | (with_reducible refine wpList_load_row rfl 41 _ rfl (w7.heap.size) rfl 41 _ (0, 0) _ F7.out Try.underlying41 rfl (imgSize3 _ _ _) ?_) | (with_reducible refine wpList_load_row rfl 41 _ rfl (w9.heap.size) rfl 41 _ (0, 0) _ F9.out Try.underlying41 rfl (imgSize3 _ _ _) ?_) | (with_reducible refine wpList_load_row rfl 41 _ rfl (w11.heap.size) rfl 41 _ (0, 0) _ F11.out Try.underlying41 rfl (imgSize3 _ _ _) ?_) | (with_reducible refine wpList_load_row rfl 41 _ rfl (w13.heap.size) rfl 41 _ (0, 0) _ F13.out Try.underlying41 rfl (imgSize3 _ _ _) ?_))
    refine (own_res W H q m mcap l _ (SM.out.below BW.out) hm2).mono ?_
    rintro e w14 ⟨p14, c14, rfl, hs, hb⟩
    rw [HLM.out] at hs
    rw [HLM.out]
    have S14 := Lib.hid hs
    replace F0 := Lib.hid ((hb.block _ (block_lt F0.out)).trans F0.out)
    replace FX := Lib.hid ((hb.block _ (block_lt FX.out)).trans FX.out)
    replace F7 := Lib.hid ((hb.block _ (block_lt F7.out)).trans F7.out)
    replace F9 := Lib.hid ((hb.block _ (block_lt F9.out)).trans F9.out)
    replace F11 := Lib.hid ((hb.block _ (block_lt F11.out)).trans F11.out)
    replace F13 := Lib.hid ((hb.block _ (block_lt F13.out)).trans F13.out)
    replace S5 := Lib.hid (S5.out.below hb)
    replace S7 := Lib.hid (S7.out.below hb)
    replace S9 := Lib.hid (S9.out.below hb)
    replace S11 := Lib.hid (S11.out.below hb)
    replace S13 := Lib.hid (S13.out.below hb)
    replace BW := Lib.hid (BW.out.trans (hb.mono BW.out.size))
    clear hb hs
    go_wp2_with (first | (with_reducible refine wpList_load_row rfl 41 _ rfl (w.heap.size) rfl 41 _ (0, 0) _ F0.out Try.underlying41 rfl (imgSize3 _ _ _) ?_) | (with_reducible refine wpList_load_row rfl 41 _ rfl (w4.heap.size) rfl 41 _ (0, 0) _ FX.out Try.underlying41 rfl (imgSize3 _ _ _) ?_) | (with_reducible refine wpList_load_row rfl 41 _ rfl (w7.heap.size) rfl 41 _ (0, 0) _ F7.out Try.underlying41 rfl (imgSize3 _ _ _) ?_) | (with_reducible refine wpList_load_row rfl 41 _ rfl (w9.heap.size) rfl 41 _ (0, 0) _ F9.out Try.underlying41 rfl (imgSize3 _ _ _) ?_) | (with_reducible refine wpList_load_row rfl 41 _ rfl (w11.heap.size) rfl 41 _ (0, 0) _ F11.out Try.underlying41 rfl (imgSize3 _ _ _) ?_) | (with_reducible refine wpList_load_row rfl 41 _ rfl (w13.heap.size) rfl 41 _ (0, 0) _ F13.out Try.underlying41 rfl (imgSize3 _ _ _) ?_))
    refine (apply_ok ⟨#[103, 114, 101, 121]⟩ 1 (by decide +kernel) none 0 0 [] W H p14 m c14 l _ Sl.nil S14.out (by decide) HG.out).mono ?_
    rintro e w15 ⟨p15, c15, rfl, hs, hb⟩
    rw [len_out HMM.out] at hs
    rw [len_out HMM.out]
    have S15 := Lib.hid hs
    replace F0 := Lib.hid ((hb.block _ (block_lt F0.out)).trans F0.out)
    replace FX := Lib.hid ((hb.block _ (block_lt FX.out)).trans FX.out)
    replace F7 := Lib.hid ((hb.block _ (block_lt F7.out)).trans F7.out)
    replace F9 := Lib.hid ((hb.block _ (block_lt F9.out)).trans F9.out)
    replace F11 := Lib.hid ((hb.block _ (block_lt F11.out)).trans F11.out)
    replace F13 := Lib.hid ((hb.block _ (block_lt F13.out)).trans F13.out)
    replace S5 := Lib.hid (S5.out.below hb)
    replace S7 := Lib.hid (S7.out.below hb)
    replace S9 := Lib.hid (S9.out.below hb)
    replace S11 := Lib.hid (S11.out.below hb)
    replace S13 := Lib.hid (S13.out.below hb)
    replace BW := Lib.hid (BW.out.trans (hb.mono BW.out.size))
    clear hb hs
    have hbA := (Below.refl w15.heap.size w15).alloc (Nat.le_refl _) (.cells #[.int .i64 W, .int .i64 H, .slice p15 m c15] 41)
    replace F0 := Lib.hid ((hbA.block _ (block_lt F0.out)).trans F0.out)
    replace FX := Lib.hid ((hbA.block _ (block_lt FX.out)).trans FX.out)
    replace F7 := Lib.hid ((hbA.block _ (block_lt F7.out)).trans F7.out)
    replace F9 := Lib.hid ((hbA.block _ (block_lt F9.out)).trans F9.out)
    replace F11 := Lib.hid ((hbA.block _ (block_lt F11.out)).trans F11.out)
    replace F13 := Lib.hid ((hbA.block _ (block_lt F13.out)).trans F13.out)
    replace S5 := Lib.hid (S5.out.below hbA)
    replace S7 := Lib.hid (S7.out.below hbA)
    replace S9 := Lib.hid (S9.out.below hbA)
    replace S11 := Lib.hid (S11.out.below hbA)
    replace S13 := Lib.hid (S13.out.below hbA)
    replace S15 := Lib.hid (S15.out.below hbA)
    replace BW := Lib.hid (BW.out.trans (hbA.mono BW.out.size))
    have F15 := Lib.hid (heap_alloc_last w15 (.cells #[.int .i64 W, .int .i64 H, .slice p15 m c15] 41))
    clear hbA
    go_wp2_with (first | (with_reducible refine wpList_store_row rfl 41 _ _ rfl w15.heap.size _ rfl rfl 41 _ (heap_alloc_last _ _) (imgSize3 _ _ _) (imgSz _ _ _ _ _ _) (imgOne _ _ _ _ _) ?_; rw [World.setRow_alloc_new]) | (with_reducible refine wpList_load_row rfl 41 _ rfl (w.heap.size) rfl 41 _ (0, 0) _ F0.out Try.underlying41 rfl (imgSize3 _ _ _) ?_) | (with_reducible refine wpList_load_row rfl 41 _ rfl (w4.heap.size) rfl 41 _ (0, 0) _ FX.out Try.underlying41 rfl (imgSize3 _ _ _) ?_) | (with_reducible refine wpList_load_row rfl 41 _ rfl (w7.heap.size) rfl 41 _ (0, 0) _ F7.out Try.underlying41 rfl (imgSize3 _ _ _) ?_) | (with_reducible refine wpList_load_row rfl 41 _ rfl (w9.heap.size) rfl 41 _ (0, 0) _ F9.out Try.underlying41 rfl (imgSize3 _ _ _) ?_) | (with_reducible refine wpList_load_row rfl 41 _ rfl (w11.heap.size) rfl 41 _ (0, 0) _ F11.out Try.underlying41 rfl (imgSize3 _ _ _) ?_) | (with_reducible refine wpList_load_row rfl 41 _ rfl (w13.heap.size) rfl 41 _ (0, 0) _ F13.out Try.underlying41 rfl (imgSize3 _ _ _) ?_) | (with_reducible refine wpList_load_row rfl 41 _ rfl (w15.heap.size) rfl 41 _ (0, 0) _ F15.out Try.underlying41 rfl (imgSize3 _ _ _) ?_))
    refine (own_res W H p15 m c15 (pm.out 1 [] l W.toNat (m / 4)) _ S15.out hm2).mono ?_
    rintro e w16 ⟨p16, c16, rfl, hs, hb⟩
    rw [len_out HMM.out] at hs
    rw [len_out HMM.out]
    have S16 := Lib.hid hs
    replace F0 := Lib.hid ((hb.block _ (block_lt F0.out)).trans F0.out)
    replace FX := Lib.hid ((hb.block _ (block_lt FX.out)).trans FX.out)
    replace F7 := Lib.hid ((hb.block _ (block_lt F7.out)).trans F7.out)
    replace F9 := Lib.hid ((hb.block _ (block_lt F9.out)).trans F9.out)
    replace F11 := Lib.hid ((hb.block _ (block_lt F11.out)).trans F11.out)
    replace F13 := Lib.hid ((hb.block _ (block_lt F13.out)).trans F13.out)
    replace F15 := Lib.hid ((hb.block _ (block_lt F15.out)).trans F15.out)
    replace S5 := Lib.hid (S5.out.below hb)
    replace S7 := Lib.hid (S7.out.below hb)
    replace S9 := Lib.hid (S9.out.below hb)
    replace S11 := Lib.hid (S11.out.below hb)
    replace S13 := Lib.hid (S13.out.below hb)
    replace S15 := Lib.hid (S15.out.below hb)
    replace BW := Lib.hid (BW.out.trans (hb.mono BW.out.size))
    clear hb hs
    go_wp2_with (first | (with_reducible refine wpList_load_row rfl 41 _ rfl (w.heap.size) rfl 41 _ (0, 0) _ F0.out Try.underlying41 rfl (imgSize3 _ _ _) ?_) | (with_reducible refine wpList_load_row rfl 41 _ rfl (w4.heap.size) rfl 41 _ (0, 0) _ FX.out Try.underlying41 rfl (imgSize3 _ _ _) ?_) | (with_reducible refine wpList_load_row rfl 41 _ rfl (w7.heap.size) rfl 41 _ (0, 0) _ F7.out Try.underlying41 rfl (imgSize3 _ _ _) ?_) | (with_reducible refine wpList_load_row rfl 41 _ rfl (w9.heap.size) rfl 41 _ (0, 0) _ F9.out Try.underlying41 rfl (imgSize3 _ _ _) ?_) | (with_reducible refine wpList_load_row rfl 41 _ rfl (w11.heap.size) rfl 41 _ (0, 0) _ F11.out Try.underlying41 rfl (imgSize3 _ _ _) ?_) | (with_reducible refine wpList_load_row rfl 41 _ rfl (w13.heap.size) rfl 41 _ (0, 0) _ F13.out Try.underlying41 rfl (imgSize3 _ _ _) ?_) | (with_reducible refine wpList_load_row rfl 41 _ rfl (w15.heap.size) rfl 41 _ (0, 0) _ F15.out Try.underlying41 rfl (imgSize3 _ _ _) ?_))
    refine (apply_ok ⟨#[103, 114, 101, 121]⟩ 1 (by decide +kernel) none 0 0 [] W H p16 m c16 (pm.out 1 [] l W.toNat (m / 4)) _ Sl.nil S16.out (by decide) HG.out).mono ?_
    rintro e w17 ⟨p17, c17, rfl, hs, hb⟩
    rw [len_out HMM.out] at hs
    rw [len_out HMM.out]
    have S17 := Lib.hid hs
    replace F0 := Lib.hid ((hb.block _ (block_lt F0.out)).trans F0.out)
    replace FX := Lib.hid ((hb.block _ (block_lt FX.out)).trans FX.out)
    replace F7 := Lib.hid ((hb.block _ (block_lt F7.out)).trans F7.out)
    replace F9 := Lib.hid ((hb.block _ (block_lt F9.out)).trans F9.out)
    replace F11 := Lib.hid ((hb.block _ (block_lt F11.out)).trans F11.out)
    replace F13 := Lib.hid ((hb.block _ (block_lt F13.out)).trans F13.out)
    replace F15 := Lib.hid ((hb.block _ (block_lt F15.out)).trans F15.out)
    replace S5 := Lib.hid (S5.out.below hb)
    replace S7 := Lib.hid (S7.out.below hb)
    replace S9 := Lib.hid (S9.out.below hb)
    replace S11 := Lib.hid (S11.out.below hb)
    replace S13 := Lib.hid (S13.out.below hb)
    replace S15 := Lib.hid (S15.out.below hb)
    replace BW := Lib.hid (BW.out.trans (hb.mono BW.out.size))
    clear hb hs
    have hbA := (Below.refl w17.heap.size w17).alloc (Nat.le_refl _) (.cells #[.int .i64 W, .int .i64 H, .slice p17 m c17] 41)
    replace F0 := Lib.hid ((hbA.block _ (block_lt F0.out)).trans F0.out)
    replace FX := Lib.hid ((hbA.block _ (block_lt FX.out)).trans FX.out)
    replace F7 := Lib.hid ((hbA.block _ (block_lt F7.out)).trans F7.out)
    replace F9 := Lib.hid ((hbA.block _ (block_lt F9.out)).trans F9.out)
    replace F11 := Lib.hid ((hbA.block _ (block_lt F11.out)).trans F11.out)
    replace F13 := Lib.hid ((hbA.block _ (block_lt F13.out)).trans F13.out)
    replace F15 := Lib.hid ((hbA.block _ (block_lt F15.out)).trans F15.out)
    replace S5 := Lib.hid (S5.out.below hbA)
    replace S7 := Lib.hid (S7.out.below hbA)
    replace S9 := Lib.hid (S9.out.below hbA)
    replace S11 := Lib.hid (S11.out.below hbA)
    replace S13 := Lib.hid (S13.out.below hbA)
    replace S15 := Lib.hid (S15.out.below hbA)
    replace S17 := Lib.hid (S17.out.below hbA)
    replace BW := Lib.hid (BW.out.trans (hbA.mono BW.out.size))
    have F17 := Lib.hid (heap_alloc_last w17 (.cells #[.int .i64 W, .int .i64 H, .slice p17 m c17] 41))
    clear hbA
    have cFX0 := (cell_of_row _ _ 0 _ _ (0, 0) FX.out).trans rfl
    have cFX1 := (cell_of_row _ _ 1 _ _ (0, 0) FX.out).trans rfl
    have cFX2 := (cell_of_row _ _ 2 _ _ (0, 0) FX.out).trans rfl
    have cF00 := (cell_of_row _ _ 0 _ _ (0, 0) F0.out).trans rfl
    have cF01 := (cell_of_row _ _ 1 _ _ (0, 0) F0.out).trans rfl
    have cF02 := (cell_of_row _ _ 2 _ _ (0, 0) F0.out).trans rfl
    go_wp2_with (with_reducible refine wpList_store_row rfl 41 _ _ rfl w17.heap.size _ rfl rfl 41 _ (heap_alloc_last _ _) (imgSize3 _ _ _) (imgSz _ _ _ _ _ _) (imgOne _ _ _ _ _) ?_; rw [World.setRow_alloc_new])
    refine (same_any W H W H p5 q m m c5 mcap (pm.out 0 [] (pm.out 0 [] l W.toNat (m / 4)) W.toNat (m / 4)) l _ S5.out (SM.out.below BW.out)).mono ?_
    rintro e w18 ⟨rfl, hb⟩
    rw [sameB_true ⟨rfl, rfl, (pm.invert_twice (by rw [HNN.out]; exact HLN.out) HU.out)⟩]
    clear cFX0 cFX1 cFX2 cF00 cF01 cF02
    replace F0 := Lib.hid ((hb.block _ (block_lt F0.out)).trans F0.out)
    replace FX := Lib.hid ((hb.block _ (block_lt FX.out)).trans FX.out)
    replace F7 := Lib.hid ((hb.block _ (block_lt F7.out)).trans F7.out)
    replace F9 := Lib.hid ((hb.block _ (block_lt F9.out)).trans F9.out)
    replace F11 := Lib.hid ((hb.block _ (block_lt F11.out)).trans F11.out)
    replace F13 := Lib.hid ((hb.block _ (block_lt F13.out)).trans F13.out)
    replace F15 := Lib.hid ((hb.block _ (block_lt F15.out)).trans F15.out)
    replace F17 := Lib.hid ((hb.block _ (block_lt F17.out)).trans F17.out)
    replace S5 := Lib.hid (S5.out.below hb)
    replace S7 := Lib.hid (S7.out.below hb)
    replace S9 := Lib.hid (S9.out.below hb)
    replace S11 := Lib.hid (S11.out.below hb)
    replace S13 := Lib.hid (S13.out.below hb)
    replace S15 := Lib.hid (S15.out.below hb)
    replace S17 := Lib.hid (S17.out.below hb)
    replace BW := Lib.hid (BW.out.trans (hb.mono BW.out.size))
    clear hb
    have cF70 := (cell_of_row _ _ 0 _ _ (0, 0) F7.out).trans rfl
    have cF71 := (cell_of_row _ _ 1 _ _ (0, 0) F7.out).trans rfl
    have cF72 := (cell_of_row _ _ 2 _ _ (0, 0) F7.out).trans rfl
    have cF90 := (cell_of_row _ _ 0 _ _ (0, 0) F9.out).trans rfl
    have cF91 := (cell_of_row _ _ 1 _ _ (0, 0) F9.out).trans rfl
    have cF92 := (cell_of_row _ _ 2 _ _ (0, 0) F9.out).trans rfl
    go_wp2_with fail
    refine (same_any W H W H p7 p9 m m c7 c9 (pm.out 7 [kv] l W.toNat (m / 4)) (pm.out 7 [kv] (pm.out 7 [kv] l W.toNat (m / 4)) W.toNat (m / 4)) _ S7.out S9.out).mono ?_
    rintro e w19 ⟨rfl, hb⟩
    rw [sameB_true ⟨rfl, rfl, (pm.post_twice hk1 hk2 HU.out).symm⟩]
    clear cF70 cF71 cF72 cF90 cF91 cF92
    replace F0 := Lib.hid ((hb.block _ (block_lt F0.out)).trans F0.out)
    replace FX := Lib.hid ((hb.block _ (block_lt FX.out)).trans FX.out)
    replace F7 := Lib.hid ((hb.block _ (block_lt F7.out)).trans F7.out)
    replace F9 := Lib.hid ((hb.block _ (block_lt F9.out)).trans F9.out)
    replace F11 := Lib.hid ((hb.block _ (block_lt F11.out)).trans F11.out)
    replace F13 := Lib.hid ((hb.block _ (block_lt F13.out)).trans F13.out)
    replace F15 := Lib.hid ((hb.block _ (block_lt F15.out)).trans F15.out)
    replace F17 := Lib.hid ((hb.block _ (block_lt F17.out)).trans F17.out)
    replace S5 := Lib.hid (S5.out.below hb)
    replace S7 := Lib.hid (S7.out.below hb)
    replace S9 := Lib.hid (S9.out.below hb)
    replace S11 := Lib.hid (S11.out.below hb)
    replace S13 := Lib.hid (S13.out.below hb)
    replace S15 := Lib.hid (S15.out.below hb)
    replace S17 := Lib.hid (S17.out.below hb)
    replace BW := Lib.hid (BW.out.trans (hb.mono BW.out.size))
    clear hb
    have cF110 := (cell_of_row _ _ 0 _ _ (0, 0) F11.out).trans rfl
    have cF111 := (cell_of_row _ _ 1 _ _ (0, 0) F11.out).trans rfl
    have cF112 := (cell_of_row _ _ 2 _ _ (0, 0) F11.out).trans rfl
    have cF130 := (cell_of_row _ _ 0 _ _ (0, 0) F13.out).trans rfl
    have cF131 := (cell_of_row _ _ 1 _ _ (0, 0) F13.out).trans rfl
    have cF132 := (cell_of_row _ _ 2 _ _ (0, 0) F13.out).trans rfl
    go_wp2_with fail
    refine (same_any W H W H p11 p13 m m c11 c13 (pm.out 2 [kv * 255] l W.toNat (m / 4)) (pm.out 2 [kv * 255] (pm.out 2 [kv * 255] l W.toNat (m / 4)) W.toNat (m / 4)) _ S11.out S13.out).mono ?_
    rintro e w20 ⟨rfl, hb⟩
    rw [sameB_true ⟨rfl, rfl, (pm.thr_twice (by omega) (by omega)).symm⟩]
    clear cF110 cF111 cF112 cF130 cF131 cF132
    replace F0 := Lib.hid ((hb.block _ (block_lt F0.out)).trans F0.out)
    replace FX := Lib.hid ((hb.block _ (block_lt FX.out)).trans FX.out)
    replace F7 := Lib.hid ((hb.block _ (block_lt F7.out)).trans F7.out)
    replace F9 := Lib.hid ((hb.block _ (block_lt F9.out)).trans F9.out)
    replace F11 := Lib.hid ((hb.block _ (block_lt F11.out)).trans F11.out)
    replace F13 := Lib.hid ((hb.block _ (block_lt F13.out)).trans F13.out)
    replace F15 := Lib.hid ((hb.block _ (block_lt F15.out)).trans F15.out)
    replace F17 := Lib.hid ((hb.block _ (block_lt F17.out)).trans F17.out)
    replace S5 := Lib.hid (S5.out.below hb)
    replace S7 := Lib.hid (S7.out.below hb)
    replace S9 := Lib.hid (S9.out.below hb)
    replace S11 := Lib.hid (S11.out.below hb)
    replace S13 := Lib.hid (S13.out.below hb)
    replace S15 := Lib.hid (S15.out.below hb)
    replace S17 := Lib.hid (S17.out.below hb)
    replace BW := Lib.hid (BW.out.trans (hb.mono BW.out.size))
    clear hb
    have cF150 := (cell_of_row _ _ 0 _ _ (0, 0) F15.out).trans rfl
    have cF151 := (cell_of_row _ _ 1 _ _ (0, 0) F15.out).trans rfl
    have cF152 := (cell_of_row _ _ 2 _ _ (0, 0) F15.out).trans rfl
    have cF170 := (cell_of_row _ _ 0 _ _ (0, 0) F17.out).trans rfl
    have cF171 := (cell_of_row _ _ 1 _ _ (0, 0) F17.out).trans rfl
    have cF172 := (cell_of_row _ _ 2 _ _ (0, 0) F17.out).trans rfl
    go_wp2_with fail
    refine (same_any W H W H p15 p17 m m c15 c17 (pm.out 1 [] l W.toNat (m / 4)) (pm.out 1 [] (pm.out 1 [] l W.toNat (m / 4)) W.toNat (m / 4)) _ S15.out S17.out).mono ?_
    rintro e w21 ⟨rfl, hb⟩
    rw [sameB_true ⟨rfl, rfl, pm.grey_twice.symm⟩]
    clear cF150 cF151 cF152 cF170 cF171 cF172
    replace F0 := Lib.hid ((hb.block _ (block_lt F0.out)).trans F0.out)
    replace FX := Lib.hid ((hb.block _ (block_lt FX.out)).trans FX.out)
    replace F7 := Lib.hid ((hb.block _ (block_lt F7.out)).trans F7.out)
    replace F9 := Lib.hid ((hb.block _ (block_lt F9.out)).trans F9.out)
    replace F11 := Lib.hid ((hb.block _ (block_lt F11.out)).trans F11.out)
    replace F13 := Lib.hid ((hb.block _ (block_lt F13.out)).trans F13.out)
    replace F15 := Lib.hid ((hb.block _ (block_lt F15.out)).trans F15.out)
    replace F17 := Lib.hid ((hb.block _ (block_lt F17.out)).trans F17.out)
    replace S5 := Lib.hid (S5.out.below hb)
    replace S7 := Lib.hid (S7.out.below hb)
    replace S9 := Lib.hid (S9.out.below hb)
    replace S11 := Lib.hid (S11.out.below hb)
    replace S13 := Lib.hid (S13.out.below hb)
    replace S15 := Lib.hid (S15.out.below hb)
    replace S17 := Lib.hid (S17.out.below hb)
    replace BW := Lib.hid (BW.out.trans (hb.mono BW.out.size))
    clear hb
    go_wp2_with fail
    go_ret
    exact ⟨rfl, BW.out⟩
  · have hg' : goodB W H m = false := by simpa using hg
    rw [hg']
    have HG := Lib.hid hg'
    clear hg hg'
    go_wp2_with (with_reducible refine wpList_load_row rfl 41 _ rfl w.heap.size rfl 41 _ (0, 0) _ F0.out Try.underlying41 rfl (imgSize3 _ _ _) ?_)
    refine (own_res W H q m mcap l _ (SM.out.below BW.out) hm2).mono ?_
    rintro e w3 ⟨p3, c3, rfl, hs3, hb⟩
    have S3 := Lib.hid hs3
    replace BW := Lib.hid (BW.out.trans (hb.mono BW.out.size))
    clear hb hs3
    have hlm : Hid (l.length = m) := Lib.hid SM.out.len
    rw [hlm.out] at S3
    rw [hlm.out]
    go_wp2_with fail
    refine (apply_bad ⟨#[105, 110, 118, 101, 114, 116]⟩ 0 (by decide +kernel) none 0 0 [] W H p3 m c3 l _ Sl.nil S3.out (by decide) HG.out).mono ?_
    rintro e w4 ⟨p4, c4, rfl, hs4, hb⟩
    replace BW := Lib.hid (BW.out.trans (hb.mono BW.out.size))
    clear hb hs4
    go_wp2_with (with_reducible refine wpList_store_row rfl 41 _ _ rfl w4.heap.size _ rfl rfl 41 _ (heap_alloc_last _ _) (imgSize3 _ _ _) (imgSz _ _ _ _ _ _) (imgOne _ _ _ _ _) ?_; rw [World.setRow_alloc_new])
    go_ret
    exact ⟨rfl, BW.out.alloc BW.out.size _⟩
end Go.Proofs.Ytdemndjenlhahaa
