/- Plain arithmetic: the first coefficient is the sum; the others do not feel a shift. No program in sight. -/
import Derived.Test.YtdpccgnmlfakfaaDctMath7
namespace Go.Proofs.Ytdpccgnmlfakfaa.dm

def rowSum (u : Nat) : Int := sum8 (fun d => b u d) 8
theorem rowSum_zero : ∀ u, u < 8 → 0 < u → rowSum u = 0 := by decide +kernel
theorem fS_shift (l m : List Int) (n : Int) (h : ∀ i, i < 64 → m.getD i 0 = l.getD i 0 + n) (v u : Nat) : fS m v u = fS l v u + n * (rowSum v * rowSum u) := by
  have e : D (fun c d => n * (b v c * b u d)) = n * (rowSum v * rowSum u) := by
    rw [D_mulL, D_prod]
    rfl
  unfold fS
  rw [← e, ← D_add]
  refine D_congr (fun c hc d hd => ?_)
  rw [h (c * 8 + d) (by omega), Int.mul_add]
  congr 1
  rw [Int.mul_comm, Int.mul_comm (b u d)]
theorem fwd_shift (l m : List Int) (n : Int) (h : ∀ i, i < 64 → m.getD i 0 = l.getD i 0 + n) (k : Nat) (hk : k < 64) (h0 : 0 < k) : (fwd m).getD k 0 = (fwd l).getD k 0 := by
  have e : k / 8 * 8 + k % 8 = k := by omega
  have h1 := fwd_at m (k / 8) (k % 8) (by omega) (by omega)
  have h2 := fwd_at l (k / 8) (k % 8) (by omega) (by omega)
  rw [e] at h1 h2
  rw [h1, h2, fS_shift l m n h]
  have hz : rowSum (k / 8) * rowSum (k % 8) = 0 := by
    by_cases hv : 0 < k / 8
    · rw [rowSum_zero _ (by omega) hv, Int.zero_mul]
    · rw [rowSum_zero (k % 8) (by omega) (by omega), Int.mul_zero]
  rw [hz, Int.mul_zero, Int.add_zero]
theorem sum_all (f : Nat → Int) : D (fun c d => f (c * 8 + d)) = sum8 f 64 := by
  simp only [D, sum8]
  simp only [Nat.zero_mul, Nat.one_mul, Nat.reduceMul, Nat.reduceAdd, Nat.zero_add]
  omega
theorem b00 : ∀ d, d < 8 → b 0 d = 5793 := by decide +kernel
theorem fS_first (l : List Int) : fS l 0 0 = 33558849 * sum8 (fun i => l.getD i 0) 64 := by
  unfold fS
  rw [← sum_all, ← D_mulL]
  refine D_congr (fun c hc d hd => ?_)
  rw [b00 d hd, b00 c hc]
  rfl
theorem first_at (l : List Int) : (fwd l).getD 0 0 = rnd (33558849 * sum8 (fun i => l.getD i 0) 64) := by
  have := fwd_at l 0 0 (by omega) (by omega)
  rw [fS_first] at this
  exact this
theorem first_near (l : List Int) (h : -8192 ≤ sum8 (fun i => l.getD i 0) 64 ∧ sum8 (fun i => l.getD i 0) 64 ≤ 8192) : -16 ≤ 8 * (fwd l).getD 0 0 - sum8 (fun i => l.getD i 0) 64 ∧ 8 * (fwd l).getD 0 0 - sum8 (fun i => l.getD i 0) 64 ≤ 16 := by
  rw [first_at]
  generalize sum8 (fun i => l.getD i 0) 64 = s at *
  unfold rnd
  omega
theorem sum_within {f : Nat → Int} (h : ∀ i, -128 ≤ f i ∧ f i ≤ 128) (k : Nat) (hk : k ≤ 64) : -8192 ≤ sum8 f k ∧ sum8 f k ≤ 8192 := by
  have := sum8_within (M := 128) (f := f) h k
  omega
end Go.Proofs.Ytdpccgnmlfakfaa.dm
