/- Plain arithmetic: what is quantised and taken back is off by half a quantiser at most. No program in sight. -/
import Derived.Test.YtdpccgnmlfakfaaDctMath5
namespace Go.Proofs.Ytdpccgnmlfakfaa.dm

theorem twoE_zero {l m : List Int} {most : Int} (h : twoE l m most = 0) : l.length = 64 ∧ m.length = 64 ∧ fitE m 1 65535 = 0 ∧ fitE l (-most) most = 0 := by
  unfold twoE at h
  split at h
  · exact absurd h (by decide)
  · rename_i h1
    split at h
    · exact absurd h (by decide)
    · rename_i h2
      refine ⟨by omega, by omega, ?_, ?_⟩
      · exact Classical.byContradiction fun e => h2 (.inl e)
      · exact Classical.byContradiction fun e => h2 (.inr e)
theorem twoE_two {l m : List Int} {most : Int} (h1 : l.length = 64) (h2 : m.length = 64) : twoE l m most = 0 ∨ twoE l m most = 2 := by
  unfold twoE
  rw [if_neg (by omega)]
  split
  · exact .inr rfl
  · exact .inl rfl
theorem twoL_length (f : Int → Int → Int) (l m : List Int) : (twoL f l m).length = 64 := by simp [twoL]
theorem twoL_getD (f : Int → Int → Int) (l m : List Int) (k : Nat) (hk : k < 64) : (twoL f l m).getD k 0 = f (l.getD k 0) (m.getD k 0) := by
  simp [twoL, List.getD_eq_getElem?_getD, hk, twoAt]
theorem div_back (c q : Int) (hq : 1 ≤ q) : 2 * (mulF (divF c q) q - c) ≤ q ∧ 2 * (c - mulF (divF c q) q) ≤ q := by
  unfold mulF divF
  split
  · have h1 := Int.mul_ediv_add_emod (q - 2 * c) (2 * q)
    have h2 := Int.emod_nonneg (q - 2 * c) (b := 2 * q) (by omega)
    have h3 := Int.emod_lt_of_pos (q - 2 * c) (b := 2 * q) (by omega)
    generalize (q - 2 * c) / (2 * q) = y at *
    generalize (q - 2 * c) % (2 * q) = m at *
    rw [Int.mul_assoc] at h1
    rw [Int.neg_mul, Int.mul_comm y q]
    generalize q * y = P at *
    omega
  · have h1 := Int.mul_ediv_add_emod (2 * c + q) (2 * q)
    have h2 := Int.emod_nonneg (2 * c + q) (b := 2 * q) (by omega)
    have h3 := Int.emod_lt_of_pos (2 * c + q) (b := 2 * q) (by omega)
    generalize (2 * c + q) / (2 * q) = y at *
    generalize (2 * c + q) % (2 * q) = m at *
    rw [Int.mul_assoc] at h1
    rw [Int.mul_comm y q]
    generalize q * y = P at *
    omega
theorem divF_within {c q : Int} (hc : -1048576 ≤ c) (hc' : c ≤ 1048576) (hq : 1 ≤ q) (hq' : q ≤ 65535) : -4194304 ≤ divF c q ∧ divF c q ≤ 4194304 := by
  unfold divF
  split
  · have := quo_range (a := q - 2 * c) (b := 2 * q) (by omega) (by omega); omega
  · have := quo_range (a := 2 * c + q) (b := 2 * q) (by omega) (by omega); omega
theorem twoL_div_within {l m : List Int} (h : twoE l m 1048576 = 0) : ∀ x ∈ twoL divF l m, -4194304 ≤ x ∧ x ≤ 4194304 := by
  obtain ⟨_, _, h3, h4⟩ := twoE_zero h
  intro x hx
  obtain ⟨i, hi, rfl⟩ := List.mem_map.1 hx
  have hi := List.mem_range.1 hi
  have a := fitE_at h3 i hi
  have b := fitE_at h4 i hi
  exact divF_within b.1 b.2 a.1 a.2
end Go.Proofs.Ytdpccgnmlfakfaa.dm
