/- Plain arithmetic: the order of the diagonals, and the quantisers. No program in sight. -/
import Derived.Test.YtdpccgnmlfakfaaDctMath2
namespace Go.Proofs.Ytdpccgnmlfakfaa.dm

def zstep (r c : Nat) : Nat × Nat :=
  if ((r + c) % 2 = 0 ∧ c = 7) ∨ ((r + c) % 2 = 1 ∧ r < 7 ∧ c = 0) then (r + 1, c)
  else if ((r + c) % 2 = 0 ∧ r = 0) ∨ ((r + c) % 2 = 1 ∧ r = 7) then (r, c + 1)
  else if (r + c) % 2 = 0 then (r - 1, c + 1) else (r + 1, c - 1)
def zst : Nat → Nat × Nat
  | 0 => (0, 0)
  | k + 1 => zstep (zst k).1 (zst k).2
def zf (k : Nat) : Int := 8 * ((zst k).1 : Int) + ((zst k).2 : Int)
def zzL : List Int := (List.range 64).map zf
theorem zst_le : ∀ k, k < 64 → (zst k).1 ≤ 7 ∧ (zst k).2 ≤ 7 := by decide +kernel
theorem zstep_cases (r c : Nat) (hr : r ≤ 7) : ((r + c) % 2 = 0 ∧ c = 7) ∨ ((r + c) % 2 = 1 ∧ r < 7 ∧ c = 0) ∨ ((r + c) % 2 = 0 ∧ c ≠ 7 ∧ r = 0) ∨ ((r + c) % 2 = 1 ∧ r = 7) ∨ ((r + c) % 2 = 0 ∧ c ≠ 7 ∧ r ≠ 0) ∨ ((r + c) % 2 = 1 ∧ r < 7 ∧ c ≠ 0) := by omega
theorem zstep_a {r c : Nat} (e : (r + c) % 2 = 0) (h : c = 7) : zstep r c = (r + 1, c) := if_pos (.inl ⟨e, h⟩)
theorem zstep_b {r c : Nat} (e : (r + c) % 2 = 1) (h : r < 7) (h' : c = 0) : zstep r c = (r + 1, c) := if_pos (.inr ⟨e, h, h'⟩)
theorem zstep_c {r c : Nat} (e : (r + c) % 2 = 0) (_h : c ≠ 7) (h' : r = 0) : zstep r c = (r, c + 1) := by
  unfold zstep; rw [if_neg (by omega), if_pos (.inl ⟨e, h'⟩)]
theorem zstep_d {r c : Nat} (e : (r + c) % 2 = 1) (h : r = 7) : zstep r c = (r, c + 1) := by
  unfold zstep; rw [if_neg (by omega), if_pos (.inr ⟨e, h⟩)]
theorem zstep_e {r c : Nat} (e : (r + c) % 2 = 0) (h : c ≠ 7) (h' : r ≠ 0) : zstep r c = (r - 1, c + 1) := by
  unfold zstep; rw [if_neg (by omega), if_neg (by omega), if_pos e]
theorem zstep_f {r c : Nat} (e : (r + c) % 2 = 1) (h : r < 7) (h' : c ≠ 0) : zstep r c = (r + 1, c - 1) := by
  unfold zstep; rw [if_neg (by omega), if_neg (by omega), if_neg (by omega)]

/-- the quantiser: the scale, the base, the clamp -/
def qs (q : Int) : Int := if q < 50 then 5000 / q else 200 - 2 * q
def qb (ch : Bool) (i : Nat) : Int := if ch then 12 + 6 * ((i / 8 + i % 8 : Nat) : Int) else 10 + 3 * ((i / 8 + i % 8 : Nat) : Int)
def qc (x : Int) : Int := if x < 1 then 1 else if 255 < x then 255 else x
def qv (q : Int) (ch : Bool) (i : Nat) : Int := qc ((qb ch i * qs q + 50) / 100)
def quantL (q : Int) (ch : Bool) : List Int := (List.range 64).map (qv q ch)
def quantE (q : Int) : Int := if q < 1 ∨ 100 < q then 2 else 0
theorem qs_low {q : Int} (h : q < 50) : qs q = 5000 / q := if_pos h
theorem qs_high {q : Int} (h : ¬ q < 50) : qs q = 200 - 2 * q := if_neg h
theorem qs_range {q : Int} (h1 : 1 ≤ q) (h2 : q ≤ 100) : 0 ≤ qs q ∧ qs q ≤ 5000 := by
  unfold qs
  split
  · exact ⟨Int.ediv_nonneg (by decide) (by omega), Int.le_trans (Int.ediv_le_self _ (by decide)) (by decide)⟩
  · omega
theorem prod_range {a b : Int} (ha : 0 ≤ a) (ha' : a ≤ 96) (hb : 0 ≤ b) (hb' : b ≤ 5000) : 0 ≤ a * b ∧ a * b ≤ 480000 := by
  have h2 := Int.mul_le_mul ha' hb' hb (show (0 : Int) ≤ 96 by decide)
  exact ⟨Int.mul_nonneg ha hb, h2⟩
theorem qc_cases (x : Int) : (x < 1 ∧ qc x = 1) ∨ (1 ≤ x ∧ 255 < x ∧ qc x = 255) ∨ (1 ≤ x ∧ x ≤ 255 ∧ qc x = x) := by
  unfold qc
  by_cases h : x < 1
  · rw [if_pos h]; exact .inl ⟨h, rfl⟩
  · rw [if_neg h]
    by_cases h' : 255 < x
    · rw [if_pos h']; exact .inr (.inl ⟨by omega, h', rfl⟩)
    · rw [if_neg h']; exact .inr (.inr ⟨by omega, by omega, rfl⟩)
end Go.Proofs.Ytdpccgnmlfakfaa.dm
