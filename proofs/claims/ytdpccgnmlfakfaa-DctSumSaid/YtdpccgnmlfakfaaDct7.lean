/- The walks of the reference's small functions: over, within, Basis, table; and SameInts. -/
import Derived.Test.YtdpccgnmlfakfaaDct6
namespace Go.Proofs.Ytdpccgnmlfakfaa
open Go.RowKit

set_option maxRecDepth 100000 in
theorem over_any (v : Int) (w : World) (h1 : -4611686018427387904 ≤ v) (h2 : v ≤ 4611686018427387904) : Calls Try.prog 31 #[.int .i64 v] w fun e w' => e = .returned (.int .i64 (v / 268435456)) ∧ w = w' := by
  have hq := Int.mul_tdiv_add_tmod v 268435456
  have hd := Int.mul_ediv_add_emod v 268435456
  have hm1 := Int.emod_nonneg v (b := 268435456) (by decide)
  have hm2 := Int.emod_lt_of_pos v (b := 268435456) (by decide)
  have hr1 := Int.tmod_lt_of_pos v (b := 268435456) (by decide)
  have hr2 : -268435456 < Int.tmod v 268435456 := by
    have := Int.tmod_lt_of_pos (-v) (b := 268435456) (by decide)
    rw [Int.neg_tmod] at this
    omega
  have hs : 0 ≤ v → 0 ≤ Int.tmod v 268435456 := fun h => Int.tmod_nonneg _ h
  have hs' : v ≤ 0 → Int.tmod v 268435456 ≤ 0 := fun h => by
    have := Int.tmod_nonneg 268435456 (show 0 ≤ -v by omega)
    rw [Int.neg_tmod] at this
    omega
  obtain ⟨q, hqq⟩ : ∃ q, q = Int.tdiv v 268435456 := ⟨_, rfl⟩
  obtain ⟨r, hrr⟩ : ∃ r, r = Int.tmod v 268435456 := ⟨_, rfl⟩
  rw [← hqq, ← hrr] at hq
  rw [← hrr] at hr1 hr2 hs hs'
  have hq1 : -4611686018427387904 ≤ q := by omega
  have hq2 : q ≤ 4611686018427387904 := by omega
  by_cases hr : r < 0
  · have HV : Hid (v / 268435456 = q - 1) := Lib.hid (by omega)
    rw [HV.out]
    clear hq hd hm1 hm2 hs hs' HV
    have hqq' := hqq.symm
    have hrr' := hrr.symm
    clear hqq hrr
    go_enter Try.func31, Try.ntmps31
    go_wp2
    go_ret
    exact ⟨rfl, rfl⟩
  · have HV : Hid (v / 268435456 = q) := Lib.hid (by omega)
    rw [HV.out]
    clear hq hd hm1 hm2 hs hs' HV
    have hqq' := hqq.symm
    have hrr' := hrr.symm
    clear hqq hrr
    go_enter Try.func31, Try.ntmps31
    go_wp2
    go_ret
    exact ⟨rfl, rfl⟩

set_option maxRecDepth 100000 in
theorem within_any (a : Option Addr) (n cap : Nat) (l : List Int) (lo hi : Int) (w : World) (hn : l.length = n) (hm : n ≤ maxLen) (hr : Rd .i64 w a l) :
    Calls Try.prog 29 #[.slice a n cap, .int .i64 lo, .int .i64 hi] w fun e w' => e = .returned (.int .i64 (dm.fitE l lo hi)) ∧ w = w' := by
  by_cases h64 : n = 64
  · subst h64
    obtain ⟨bl, off, rfl⟩ := hr.at (by omega)
    have Hr := Lib.hid hr
    have Hn := Lib.hid hn
    by_cases hbad : dm.fitE l lo hi = 0
    · obtain ⟨_, hok⟩ := dm.fitE_zero hbad
      have HG : Hid (∀ i, i < 64 → lo ≤ l.getD i 0 ∧ l.getD i 0 ≤ hi) := Lib.hid (fun i hi' => by
        have := hok _ (List.getElem_mem (show i < l.length by omega))
        rw [List.getD_eq_getElem?_getD, List.getElem?_eq_getElem (by omega)]
        exact this)
      rw [hbad]
      clear hok hbad hr hn
      go_enter Try.func29, Try.ntmps29
      go_wp2_with fail
      go_loopg [7] 64 (fun gk s wr => wr = w ∧ ∃ k : Nat, k ≤ 64 ∧ gk = 64 - k ∧ s = .int .i64 k)
      case atStart => exact ⟨rfl, 0, by omega, rfl, rfl⟩
      case round =>
        obtain ⟨rfl, k, hk, hg, rfl⟩ := hrel
        have Hg := Lib.hid hg
        clear hg
        by_cases hlt : k < 64
        · have hc := Hr.out.cell k (by rw [Hn.out]; exact hlt)
          obtain ⟨x1, x2⟩ := HG.out k hlt
          generalize l.getD k 0 = x at *
          go_wp2
          go_roundg (64 - (k + 1))
          case measure => have := Hg.out; omega
          case rel => exact ⟨rfl, k + 1, by omega, rfl, by go_num⟩
        · obtain rfl : k = 64 := by omega
          go_wp2
          go_ret
          exact ⟨rfl, rfl⟩
    · have hb : ∃ x ∈ l, x < lo ∨ hi < x := Classical.byContradiction fun hno => hbad (by unfold dm.fitE; rw [if_neg (by omega), if_neg hno])
      have he : dm.fitE l lo hi = 2 := by unfold dm.fitE; rw [if_neg (by omega), if_pos hb]
      have HE : Hid (∃ i, i < 64 ∧ (l.getD i 0 < lo ∨ hi < l.getD i 0)) := Lib.hid (by
        obtain ⟨i, h1, h2⟩ := dm.mem_getD.1 hb
        exact ⟨i, by omega, h2⟩)
      rw [he]
      clear hb hbad hr hn he
      go_enter Try.func29, Try.ntmps29
      go_wp2_with fail
      go_loopg [7] 64 (fun gk s wr => wr = w ∧ ∃ k : Nat, k ≤ 64 ∧ gk = 64 - k ∧ s = .int .i64 k ∧ ∀ i, i < k → ¬ (l.getD i 0 < lo ∨ hi < l.getD i 0))
      case atStart => exact ⟨rfl, 0, by omega, rfl, rfl, fun i h => absurd h (by omega)⟩
      case round =>
        obtain ⟨rfl, k, hk, hg, rfl, hno⟩ := hrel
        have Hg := Lib.hid hg
        have Hno := Lib.hid hno
        clear hg hno
        by_cases hlt : k < 64
        · have hc := Hr.out.cell k (by rw [Hn.out]; exact hlt)
          obtain ⟨x, hx⟩ : ∃ x, x = l.getD k 0 := ⟨_, rfl⟩
          rw [← hx] at hc
          have Hx := Lib.hid hx
          clear hx
          by_cases h1 : x < lo
          · go_wp2
            go_ret
            exact ⟨rfl, rfl⟩
          · by_cases h2 : hi < x
            · go_wp2
              go_ret
              exact ⟨rfl, rfl⟩
            · go_wp2
              go_roundg (64 - (k + 1))
              case measure => have := Hg.out; omega
              case rel =>
                refine ⟨rfl, k + 1, by omega, rfl, by go_num, fun i h => ?_⟩
                by_cases hik : i = k
                · subst hik
                  rw [← Hx.out]
                  omega
                · exact Hno.out i (by omega)
        · obtain ⟨i, h1, h2⟩ := HE.out
          exact absurd h2 (Hno.out i (by omega))
  · have he := dm.fitE_long (l := l) (lo := lo) (hi := hi) (by omega)
    rw [he]
    have h64' : ¬ (n : Int) = 64 := by omega
    clear hr hn he
    go_enter Try.func29, Try.ntmps29
    go_wp2
    go_ret
    exact ⟨rfl, rfl⟩

def k8 : List Int := [0, 8035, 7568, 6811, 5793, 4551, 3135, 1598]
theorem k8_cell (w : World) (t : TypeId) (j : Nat) (hj : j < 8) : (w.alloc (.cells (ints k8) t)).cell? ⟨w.heap.size, j, none⟩ = some (.int .i64 (dm.kk j)) := by
  rw [ints_cell (heap_alloc_new _ _) j (by exact hj)]
  congr 2
  rcases (show j = 0 ∨ j = 1 ∨ j = 2 ∨ j = 3 ∨ j = 4 ∨ j = 5 ∨ j = 6 ∨ j = 7 by omega) with rfl | rfl | rfl | rfl | rfl | rfl | rfl | rfl <;> rfl

set_option maxRecDepth 100000 in
set_option maxHeartbeats 800000 in
theorem refBasis_any (u x : Nat) (w : World) (hu : u < 8) (hx : x < 8) : Calls Try.prog 40 #[.int .i64 u, .int .i64 x] w fun e w' => e = .returned (.int .i64 (dm.bas u x)) ∧ Below w.heap.size w w' := by
  have HC := Lib.hid (k8_cell w 3)
  have hk : ints k8 = #[.int .i64 0, .int .i64 8035, .int .i64 7568, .int .i64 6811, .int .i64 5793, .int .i64 4551, .int .i64 3135, .int .i64 1598] := rfl
  rw [hk] at HC
  clear hk
  have HB : Hid (Below w.heap.size w (w.alloc (.cells #[.int .i64 0, .int .i64 8035, .int .i64 7568, .int .i64 6811, .int .i64 5793, .int .i64 4551, .int .i64 3135, .int .i64 1598] 3))) := Lib.hid ((Below.refl _ _).alloc (Nat.le_refl _) _)
  by_cases h0 : u = 0
  · subst h0
    have hv : dm.bas 0 x = 5793 := if_pos rfl
    rw [hv]
    clear hv
    go_enter Try.func40, Try.ntmps40
    go_wp2
    go_ret
    exact ⟨rfl, HB.out⟩
  · have hm0 : (2 * x + 1) * u ≤ 15 * 7 := Nat.mul_le_mul (by omega) (by omega)
    have hmi : (2 * (x : Int) + 1) * (u : Int) = (((2 * x + 1) * u : Nat) : Int) := by push_cast; rfl
    have hS := fun h => dm.bas_small u x h0 h
    have hG := fun h => dm.bas_great u x h0 h
    have hu0 : ¬ (u : Int) = 0 := by omega
    generalize dm.bas u x = v at *
    generalize (2 * x + 1) * u = m at *
    obtain ⟨t, ht⟩ : ∃ t, t = m % 32 := ⟨_, rfl⟩
    have ht32 : t < 32 := by omega
    have hti : (m : Int) % 32 = (t : Int) := by omega
    rw [← ht] at hS hG
    rcases (show t < 8 ∨ t = 8 ∨ (8 < t ∧ t ≤ 16) ∨ (16 < t ∧ t < 24) ∨ t = 24 ∨ 24 < t by omega) with h | h | ⟨h, h'⟩ | ⟨h, h'⟩ | h | h
    · have hf : dm.fold32 t = t := if_pos (by omega)
      have hv := hS (by omega)
      rw [hf] at hv
      have hc := HC.out t h
      have hr := dm.kk_range t
      rw [hv]
      clear hS hG hf hv
      generalize dm.kk t = kv at *
      clear ht
      go_enter Try.func40, Try.ntmps40
      go_wp2
      go_ret
      exact ⟨rfl, HB.out⟩
    · subst h
      have hv : v = 0 := hS (by decide)
      subst hv
      clear hS hG
      clear ht
      go_enter Try.func40, Try.ntmps40
      go_wp2
      go_ret
      exact ⟨rfl, HB.out⟩
    · have hf : dm.fold32 t = t := if_pos (by omega)
      have hv := hG (by omega)
      rw [hf] at hv
      have hc := HC.out (16 - t) (by omega)
      have hr := dm.kk_range (16 - t)
      rw [hv]
      clear hS hG hf hv
      generalize dm.kk (16 - t) = kv at *
      clear ht
      go_enter Try.func40, Try.ntmps40
      go_wp2
      go_ret
      exact ⟨rfl, HB.out⟩
    · have hf : dm.fold32 t = 32 - t := if_neg (by omega)
      have hv := hG (by omega)
      rw [hf, show 16 - (32 - t) = t - 16 from by omega] at hv
      have hc := HC.out (t - 16) (by omega)
      have hr := dm.kk_range (t - 16)
      rw [hv]
      clear hS hG hf hv
      generalize dm.kk (t - 16) = kv at *
      clear ht
      go_enter Try.func40, Try.ntmps40
      go_wp2
      go_ret
      exact ⟨rfl, HB.out⟩
    · subst h
      have hv : v = 0 := hS (by decide)
      subst hv
      clear hS hG
      clear ht
      go_enter Try.func40, Try.ntmps40
      go_wp2
      go_ret
      exact ⟨rfl, HB.out⟩
    · have hf : dm.fold32 t = 32 - t := if_neg (by omega)
      have hv := hS (by omega)
      rw [hf] at hv
      have hc := HC.out (32 - t) (by omega)
      have hr := dm.kk_range (32 - t)
      rw [hv]
      clear hS hG hf hv
      generalize dm.kk (32 - t) = kv at *
      clear ht
      go_enter Try.func40, Try.ntmps40
      go_wp2
      go_ret
      exact ⟨rfl, HB.out⟩
end Go.Proofs.Ytdpccgnmlfakfaa
