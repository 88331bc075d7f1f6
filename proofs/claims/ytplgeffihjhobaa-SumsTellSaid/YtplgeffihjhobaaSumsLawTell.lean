/- The walk of SumsTell: a byte that is turned is told by both sums. -/
import Derived.Test.YtplgeffihjhobaaSumsLawCrc
namespace Go.Proofs.Ytplgeffihjhobaa
open Go.RowKit

theorem sm.crc_nil : ((sm.crcOn 0 [] : Nat) : Int) = 0 := by decide +kernel
theorem crc_nil (w : World) : Calls Try.prog 9 #[.slice none 0 0] w fun e w' => e = .returned (.int .u32 0) ∧ Below w.heap.size w w' := by
  have := crc_any none 0 0 [] w rfl (by decide) (by unfold sm.Bytes; simp) .nil
  rw [sm.crc_nil] at this
  exact this
theorem u8_of {x : Int} (h : (Lit.int .u8 x).wf = true) : 0 ≤ x ∧ x < 256 := by
  simp [Lit.wf, IntKind.min, IntKind.max, IntKind.bits, IntKind.signed] at h
  omega

theorem sm.turn_at (x : Int) (n : Nat) (hn : 0 < n) (hm : n ≤ 140737488355328) : ∃ k : Nat, wrap64 ((IntKind.u64.wrap x).tmod (n : Int)) = (k : Int) ∧ k < n := by
  have h0 : 0 ≤ IntKind.u64.wrap x := by rw [IntKind.wrap_u64]; exact Int.emod_nonneg _ (by decide)
  have e : (IntKind.u64.wrap x).tmod (n : Int) = IntKind.u64.wrap x % (n : Int) := Int.tmod_eq_emod_of_nonneg h0
  have h1 : 0 ≤ IntKind.u64.wrap x % (n : Int) := Int.emod_nonneg _ (by omega)
  have h2 : IntKind.u64.wrap x % (n : Int) < n := Int.emod_lt_of_pos _ (by omega)
  rw [e]
  generalize IntKind.u64.wrap x % (n : Int) = z at *
  exact ⟨z.toNat, by rw [IntWalk.wrap64_in z ⟨by omega, by omega⟩]; omega, by omega⟩
set_option maxRecDepth 100000 in
set_option maxHeartbeats 800000 in
theorem sumsTell_empty (a : Option Addr) (n cap : Nat) (l : List Int) (x y : Int) (w : World) (h : Sl .u8 w a n cap l) (h0 : n = 0 ∨ y = 0) :
    Calls Try.prog 6 #[.slice a n cap, .int .i64 x, .int .u8 y] w fun e w' => e = .returned (.bool true) ∧ Below w.heap.size w w' := by
  rcases Nat.eq_zero_or_pos n with rfl | hn
  · clear h h0
    go_enter Try.func6, Try.ntmps6
    go_wp2_with fail
    go_must (refine (wakes_any _).mono ?_)
    rintro e w1 ⟨rfl, hb1⟩
    have B1 := Lib.hid hb1
    clear hb1
    go_wp2_with fail
    go_must (refine (crc_nil _).mono ?_)
    rintro e w2 ⟨rfl, hb2⟩
    have B2 := Lib.hid (B1.out.trans (hb2.mono B1.out.size))
    clear hb2
    go_wp2_with fail
    go_ret
    exact ⟨rfl, B2.out⟩
  · obtain rfl : y = 0 := by omega
    have hn' : ((n : Int) == 0) = false := by simp; omega
    clear h h0
    go_enter Try.func6, Try.ntmps6
    go_wp2_with fail
    go_must (refine (wakes_any _).mono ?_)
    rintro e w1 ⟨rfl, hb1⟩
    have B1 := Lib.hid hb1
    clear hb1
    go_wp2_with fail
    go_must (refine (crc_nil _).mono ?_)
    rintro e w2 ⟨rfl, hb2⟩
    have B2 := Lib.hid (B1.out.trans (hb2.mono B1.out.size))
    clear hb2
    go_wp2_with fail
    go_ret
    exact ⟨rfl, B2.out⟩

set_option maxRecDepth 100000 in
set_option maxHeartbeats 800000 in
theorem sumsTell_true (a : Option Addr) (n cap : Nat) (l : List Int) (x y : Int) (w : World) (h : Sl .u8 w a n cap l) (hr : cap ≤ 140737488355328) (hn0 : 0 < n) (hy0 : 0 < y) (hy1 : y < 256) :
    Calls Try.prog 6 #[.slice a n cap, .int .i64 x, .int .u8 y] w fun e w' => e = .returned (.bool true) ∧ Below w.heap.size w w' := by
  have hb := bytes_of h.wf
  have H := Lib.hid h
  have hn := h.fits
  have hn' : ((n : Int) == 0) = false := by simp; omega
  have hy' : (y == 0) = false := by simp; omega
  clear h
  go_enter Try.func6, Try.ntmps6
  go_wp2_with fail
  go_must (refine (wakes_any _).mono ?_)
  rintro e w1 ⟨rfl, hb1⟩
  have H1 := Lib.hid (H.out.below hb1)
  have B1 := Lib.hid hb1
  clear hb1
  go_wp2_with fail
  go_must (refine (own_any a n cap l w1 H1.out (by omega)).mono ?_)
  rintro e w2 ⟨v, rfl, ⟨g, c2, rfl, hg, hown⟩, hb2⟩
  have O2 := Lib.hid hown
  have H2 := Lib.hid (H1.out.below hb2)
  have B2 := Lib.hid (B1.out.trans (hb2.mono B1.out.size))
  have Hg := Lib.hid hg
  clear hown hb2 hg
  obtain ⟨k, hk, hkn⟩ := sm.turn_at x n (by omega) (by omega)
  have hkl : k < l.length := by rw [H.out.len]; exact hkn
  have hc1 := O2.out.cellAt k (by omega)
  have hcv : (l.map (Value.int .u8))[k]? = some (.int .u8 l[k]) := by rw [List.getElem?_map, List.getElem?_eq_getElem hkl]; rfl
  rw [hcv] at hc1
  have hfr := O2.out.frozenAt k
  have hbk := hb l[k] (List.getElem_mem hkl)
  have hxo := u8_xor l[k] y hbk.1 hbk.2 (by omega) hy1
  have hz := sm.xor_lt8 (show l[k].toNat < 256 by omega) (show y.toNat < 256 by omega)
  have hne : ((l[k].toNat ^^^ y.toNat : Nat) : Int) ≠ l[k] := by
    intro e
    have e1 : l[k].toNat ^^^ y.toNat = l[k].toNat := by omega
    have e2 : y.toNat = 0 := by
      have := congrArg (fun z => l[k].toNat ^^^ z) e1
      simpa only [← Nat.xor_assoc, Nat.xor_self, Nat.zero_xor] using this
    omega
  generalize l[k].toNat ^^^ y.toNat = z at *
  have hst := O2.out.stored k (.int .u8 (z : Int))
  have hset : ((l.map (Value.int .u8)).set k (.int .u8 (z : Int))) = (l.set k (z : Int)).map (Value.int .u8) := (List.map_set ..).symm
  rw [hset] at hst
  have hbz := hb.set k (x := (z : Int)) (by omega)
  have hwz : ∀ q ∈ l.set k (z : Int), (Lit.int .u8 q).wf = true := fun q hq => WalkArith.wf_u8 (by have := hbz q hq; omega)
  have S3 := Lib.hid (Fresh.sl hst.1 hwz)
  have hb3 : Below w.heap.size w (w2.setCell ⟨g, k, none⟩ (.int .u8 (z : Int))) := B2.out.grown hst.2 B2.out.size (by intro j hj; cases hj; exact Nat.le_trans B1.out.size Hg.out)
  have B3 := Lib.hid hb3
  have H3 := Lib.hid (H.out.below hb3)
  have HT1 := Lib.hid (sm.crcOn_told (sum := 0) (by omega) hb hkl (x := (z : Int)) (by omega) hne)
  have HT2 := Lib.hid (sm.adlOn_told (sum := 1) hb hkl (x := (z : Int)) (by omega) hne)
  have Hbz := Lib.hid hbz
  have Hk := Lib.hid hk
  have Hc1 := Lib.hid hc1
  have Hxo := Lib.hid hxo
  clear hst hset hbz hwz hb3 hcv hbk hne hk hc1 hxo
  obtain ⟨w3, hw3⟩ : ∃ w3, w3 = w2.setCell ⟨g, k, none⟩ (.int .u8 (z : Int)) := ⟨_, rfl⟩
  rw [← hw3] at S3 B3 H3
  have Hw3 := Lib.hid hw3
  clear hw3
  have hk := Hk.out
  have hc1 := Hc1.out
  have hxo := Hxo.out
  generalize l[k] = lk at *
  go_wp2_with fail
  rw [← Hw3.out]
  clear hk hc1 hxo hfr
  go_must (refine (crc_any _ _ c2 (l.set k (z : Int)) w3 S3.out.len (Nat.le_trans S3.out.fits S3.out.most) Hbz.out S3.out.rd).mono ?_)
  rintro e w4 ⟨rfl, hb4⟩
  have S4 := Lib.hid (S3.out.below hb4)
  have H4 := Lib.hid (H3.out.below hb4)
  have B4 := Lib.hid (B3.out.trans (hb4.mono B3.out.size))
  clear hb4
  go_wp2_with fail
  go_must (refine (own_any a n cap l w4 H4.out (by omega)).mono ?_)
  rintro e w5 ⟨v, rfl, ⟨g5, c5, rfl, hg, hown⟩, hb5⟩
  have T5 := Lib.hid (Fresh.sl hown (H.out.wf))
  have S5 := Lib.hid (S4.out.below hb5)
  have H5 := Lib.hid (H4.out.below hb5)
  have B5 := Lib.hid (B4.out.trans (hb5.mono B4.out.size))
  clear hown hb5 hg
  go_wp2_with fail
  go_must (refine (crc_any _ _ c5 l w5 T5.out.len (Nat.le_trans T5.out.fits T5.out.most) hb T5.out.rd).mono ?_)
  rintro e w6 ⟨rfl, hb6⟩
  have S6 := Lib.hid (S5.out.below hb6)
  have H6 := Lib.hid (H5.out.below hb6)
  have B6 := Lib.hid (B5.out.trans (hb6.mono B5.out.size))
  clear hb6
  have t1 : ((sm.crcOn 0 (l.set k (z : Int)) : Nat) : Int) != ((sm.crcOn 0 l : Nat) : Int) := by
    have := HT1.out
    simp; omega
  have t2 : ((sm.adlOn 1 (l.set k (z : Int)) : Nat) : Int) != ((sm.adlOn 1 l : Nat) : Int) := by
    have := HT2.out
    simp; omega
  generalize sm.crcOn 0 (l.set k (z : Int)) = u1 at *
  generalize sm.crcOn 0 l = u2 at *
  go_wp2_with fail
  go_must (refine (adler_any _ _ c2 (l.set k (z : Int)) w6 S6.out.len S6.out.fits S6.out.most Hbz.out S6.out.rd).mono ?_)
  rintro e w7 ⟨rfl, rfl⟩
  go_wp2_with fail
  go_must (refine (own_any a n cap l w6 H6.out (by omega)).mono ?_)
  rintro e w8 ⟨v, rfl, ⟨g8, c8, rfl, hg, hown⟩, hb8⟩
  have T8 := Lib.hid (Fresh.sl hown (H.out.wf))
  have B8 := Lib.hid (B6.out.trans (hb8.mono B6.out.size))
  clear hown hb8 hg
  go_wp2_with fail
  go_must (refine (adler_any _ _ c8 l w8 T8.out.len T8.out.fits T8.out.most hb T8.out.rd).mono ?_)
  rintro e w9 ⟨rfl, rfl⟩
  go_wp2_with fail
  go_ret
  exact ⟨rfl, B8.out⟩

theorem sumsTell_said (a : Option Addr) (n cap : Nat) (l : List Int) (x y : Int) (w : World) (h : Sl .u8 w a n cap l) (hr : cap * Try.prog.bytesOf 5 ≤ reachBytes) (_hx : (Lit.int .i64 x).wf = true) (hy : (Lit.int .u8 y).wf = true) :
    Calls Try.prog 6 #[.slice a n cap, .int .i64 x, .int .u8 y] w fun e w' => e = .returned (.bool true) ∧ Below w.heap.size w w' := by
  have hb := u8_of hy
  by_cases h0 : n = 0 ∨ y = 0
  · exact sumsTell_empty a n cap l x y w h h0
  · have := reach_le hr
    exact sumsTell_true a n cap l x y w h (by omega) (by omega) (by omega) (by omega)
end Go.Proofs.Ytplgeffihjhobaa
