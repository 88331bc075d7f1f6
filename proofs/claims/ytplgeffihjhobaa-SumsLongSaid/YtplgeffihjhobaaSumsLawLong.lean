/- The walk of SumsLong: many bytes alike are summed without a slip. -/
import Derived.Test.YtplgeffihjhobaaSumsLawCrc
import Derived.Deep.LoopGhost
namespace Go.Proofs.Ytplgeffihjhobaa
open Go.RowKit

set_option maxRecDepth 100000 in
set_option maxHeartbeats 800000 in
theorem sumsLong_out (x y : Int) (w : World) (h : y < 0 ∨ 20000 < y) :
    Calls Try.prog 7 #[.int .u8 x, .int .i64 y] w fun e w' => e = .returned (.bool true) ∧ Below w.heap.size w w' := by
  rcases h with h | h
  · go_enter Try.func7, Try.ntmps7
    go_wp2_with fail
    go_must (refine (wakes_any _).mono ?_)
    rintro e w1 ⟨rfl, hb1⟩
    have B1 := Lib.hid hb1
    clear hb1
    go_wp2_with fail
    go_ret
    exact ⟨rfl, B1.out⟩
  · have h' : ¬ y < 0 := by omega
    go_enter Try.func7, Try.ntmps7
    go_wp2_with fail
    go_must (refine (wakes_any _).mono ?_)
    rintro e w1 ⟨rfl, hb1⟩
    have B1 := Lib.hid hb1
    clear hb1
    go_wp2_with fail
    go_ret
    exact ⟨rfl, B1.out⟩

theorem sl_of {k : IntKind} {t : TypeId} {base : Nat} {w' : World} {v : Value} {n : Nat} {l : List Int} (h : w'.ownsRow base t 1 v n (l.map (Value.int k))) (hw : ∀ x ∈ l, (Lit.int k x).wf = true) : ∃ a cap, v = .slice a n cap ∧ Sl k w' a n cap l := by
  rcases h.2 with ⟨rfl, rfl⟩ | ⟨g, cap, cur, rfl, _, _⟩
  · have hl := h.1
    simp only [List.length_map, Nat.zero_mul, List.length_eq_zero_iff] at hl
    subst hl
    exact ⟨none, 0, rfl, Sl.nil⟩
  · exact ⟨_, cap, rfl, Fresh.sl h hw⟩

set_option maxRecDepth 100000 in
set_option maxHeartbeats 800000 in
theorem sumsLong_in (x : Int) (n : Nat) (w : World) (hx : (Lit.int .u8 x).wf = true) (hn : n ≤ 20000) :
    Calls Try.prog 7 #[.int .u8 x, .int .i64 (n : Nat)] w fun e w' => e = .returned (.bool true) ∧ Below w.heap.size w w' := by
  obtain ⟨i0, hi, hz0, hz1, hz2⟩ := info_parts infoByte
  have hn0 : ¬ (n : Int) < 0 := by omega
  have hwf : ∀ m, ∀ q ∈ List.replicate m x, (Lit.int .u8 q).wf = true := fun m q hq => by rw [(List.mem_replicate.1 hq).2]; exact hx
  have Hwf := Lib.hid hwf
  clear hwf hx
  go_enter Try.func7, Try.ntmps7
  go_wp2_with fail
  go_must (refine (wakes_any _).mono ?_)
  rintro e w1 ⟨rfl, hb1⟩
  have B1 := Lib.hid hb1
  clear hb1
  go_wp2_with fail
  go_loopg [5, 6] n (fun gk v i wr => ∃ k : Nat, k ≤ n ∧ gk = n - k ∧ i = .int .i64 k ∧ wr.ownsRow w1.heap.size 5 1 v k ((List.replicate k x).map (Value.int .u8)) ∧ Below w1.heap.size w1 wr)
  case atStart => exact ⟨0, by omega, rfl, rfl, World.ownsRow_nil _ _ _ _, Below.refl _ _⟩
  case round =>
    obtain ⟨k, hk, hg, rfl, hown, hnx⟩ := hrel
    have Hg := Lib.hid hg
    have Hown := Lib.hid hown
    have Hnx := Lib.hid hnx
    clear hg hown hnx
    by_cases hlt : k < n
    · have hsz := Hnx.out.size
      have HO := Lib.hid (Hown.out.alloc (.cells #[.int .u8 x] 5))
      go_wp2_with (at_builtin; go_must (refine wpList_append_own _ rfl _ _ 22 rfl w1.heap.size 5 i0 (.int .u8 0) 1 1 Try.underlying22 hi hz0 hz1 hz2 rfl (by decide) _ k _ rfl HO.out ⟨wr.heap.size, 0, none⟩ 1 1 [.int .u8 x] rfl rfl (cell_one_new _ _ _) (ints_oneCell .u8 [x]) (by unfold maxLen; omega) (by omega) (by simp; omega) ?_; intro v' w3 hown hg hnil; have Hown' := Lib.hid hown; have Hgr := Lib.hid hg; clear hown hg hnil))
      go_roundg (n - (k + 1))
      case measure => have := Hg.out; omega
      case rel =>
        refine ⟨k + 1, by omega, rfl, by go_num, ?_, ?_⟩
        · have := Hown'.out
          rw [List.replicate_succ', List.map_append]
          exact this
        · refine (Hnx.out.alloc hsz _).grown Hgr.out (by simp; omega) ?_
          intro j hj
          exact (Hown.out.lt j hj).1
    · obtain rfl : k = n := by omega
      obtain ⟨a, cap, rfl, hs⟩ := sl_of Hown.out (Hwf.out k)
      have S2 := Lib.hid hs
      have B2 := Lib.hid (B1.out.trans (Hnx.out.mono B1.out.size))
      clear hs Hown
      have hb := bytes_of (Hwf.out k)
      go_wp2_with fail
      go_must (refine (own_any a k cap _ wr S2.out (by omega)).mono ?_)
      rintro e w3 ⟨v, rfl, ⟨g3, c3, rfl, hg, hown⟩, hb3⟩
      have T3 := Lib.hid (Fresh.sl hown (Hwf.out k))
      have S3 := Lib.hid (S2.out.below hb3)
      have B3 := Lib.hid (B2.out.trans (hb3.mono B2.out.size))
      clear hown hb3 hg
      go_wp2_with fail
      go_must (refine (adler_any _ _ c3 _ w3 T3.out.len T3.out.fits T3.out.most hb T3.out.rd).mono ?_)
      rintro e w4 ⟨rfl, rfl⟩
      go_wp2_with fail
      go_must (refine (refAdler_any a k cap _ w3 S3.out.len (Nat.le_trans S3.out.fits S3.out.most) hb S3.out.rd).mono ?_)
      rintro e w4 ⟨rfl, rfl⟩
      go_wp2_with fail
      go_must (refine (own_any a k cap _ w3 S3.out (by omega)).mono ?_)
      rintro e w5 ⟨v, rfl, ⟨g5, c5, rfl, hg, hown⟩, hb5⟩
      have T5 := Lib.hid (Fresh.sl hown (Hwf.out k))
      have S5 := Lib.hid (S3.out.below hb5)
      have B5 := Lib.hid (B3.out.trans (hb5.mono B3.out.size))
      clear hown hb5 hg
      go_wp2_with fail
      go_must (refine (crc_any _ _ c5 _ w5 T5.out.len (Nat.le_trans T5.out.fits T5.out.most) hb T5.out.rd).mono ?_)
      rintro e w6 ⟨rfl, hb6⟩
      have S6 := Lib.hid (S5.out.below hb6)
      have B6 := Lib.hid (B5.out.trans (hb6.mono B5.out.size))
      clear hb6
      go_wp2_with fail
      go_must (refine (refCrc_any a k cap _ w6 S6.out.len (Nat.le_trans S6.out.fits S6.out.most) hb S6.out.rd).mono ?_)
      rintro e w7 ⟨rfl, rfl⟩
      go_wp2_with fail
      go_ret
      exact ⟨rfl, B6.out⟩

theorem sumsLong_said (x y : Int) (w : World) (hx : (Lit.int .u8 x).wf = true) (_hy : (Lit.int .i64 y).wf = true) :
    Calls Try.prog 7 #[.int .u8 x, .int .i64 y] w fun e w' => e = .returned (.bool true) ∧ Below w.heap.size w w' := by
  by_cases h : y < 0 ∨ 20000 < y
  · exact sumsLong_out x y w h
  · obtain ⟨n, rfl⟩ := Int.eq_ofNat_of_zero_le (show 0 ≤ y by omega)
    exact sumsLong_in x n w hx (by omega)
end Go.Proofs.Ytplgeffihjhobaa
