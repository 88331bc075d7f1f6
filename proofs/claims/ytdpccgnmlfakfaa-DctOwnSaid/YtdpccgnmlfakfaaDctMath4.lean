/- Plain arithmetic: the reference's order of the diagonals; which places have been met. No program in sight. -/
import Derived.Test.YtdpccgnmlfakfaaDctMath3
namespace Go.Proofs.Ytdpccgnmlfakfaa.dm

def rzc (s k : Nat) : List Int := if k ≤ s ∧ s - k < 8 then [if s % 2 = 0 then 8 * ((s - k : Nat) : Int) + (k : Int) else 8 * (k : Int) + ((s - k : Nat) : Int)] else []
def rzl : Nat → List Int
  | 0 => []
  | j + 1 => rzl j ++ rzc (j / 8) (j % 8)
theorem rzl_done : rzl (15 * 8) = zzL := by decide +kernel
theorem rzc_le (s k : Nat) : (rzc s k).length ≤ 1 := by unfold rzc; split <;> simp
theorem rzl_le (j : Nat) : (rzl j).length ≤ j := by
  induction j with
  | zero => exact Nat.le_refl _
  | succ j ih => have := rzc_le (j / 8) (j % 8); show (rzl j ++ rzc (j / 8) (j % 8)).length ≤ j + 1; rw [List.length_append]; omega
theorem rzl_next (A B : Nat) (h : B < 8) : rzl (A * 8 + (B + 1)) = rzl (A * 8 + B) ++ rzc A B := by
  show rzl (A * 8 + B) ++ rzc ((A * 8 + B) / 8) ((A * 8 + B) % 8) = _
  rw [show (A * 8 + B) / 8 = A by omega, show (A * 8 + B) % 8 = B by omega]
theorem rzc_none {s k : Nat} (h : s < k ∨ 8 ≤ s - k) : rzc s k = [] := if_neg (by omega)
theorem rzc_even {s k d : Nat} (h : k ≤ s) (hd : s - k = d) (h8 : d < 8) (e : s % 2 = 0) : rzc s k = [8 * (d : Int) + (k : Int)] := by
  subst hd; unfold rzc; rw [if_pos ⟨h, h8⟩, if_pos e]
theorem rzc_odd {s k d : Nat} (h : k ≤ s) (hd : s - k = d) (h8 : d < 8) (e : s % 2 = 1) : rzc s k = [8 * (k : Int) + (d : Int)] := by
  subst hd; unfold rzc; rw [if_pos ⟨h, h8⟩, if_neg (by omega)]

/-- which places have been met before round k -/
def met (k : Nat) : List Bool := (List.range 64).map fun (p : Nat) => decide ((p : Int) ∈ zzL.take k)
theorem met_zero : met 0 = List.replicate 64 false := by decide +kernel
theorem met_length (k : Nat) : (met k).length = 64 := by simp [met]
theorem zz_at : ∀ k, k < 64 → zzL.getD k 0 = (((zst k).1 * 8 + (zst k).2 : Nat) : Int) ∧ (zst k).1 * 8 + (zst k).2 < 64 := by decide +kernel
theorem met_new : ∀ k, k < 64 → (met k).getD ((zst k).1 * 8 + (zst k).2) false = false := by decide +kernel
theorem met_set : ∀ k, k < 64 → (met k).set ((zst k).1 * 8 + (zst k).2) true = met (k + 1) := by decide +kernel
theorem zzL_length : zzL.length = 64 := by simp [zzL]
end Go.Proofs.Ytdpccgnmlfakfaa.dm
