/- Plain arithmetic: quantised and taken back. No program in sight. -/
import Derived.Test.YtdpccgnmlfakfaaDctMath3
namespace Go.Proofs.Ytdpccgnmlfakfaa.dm

def divF (c q : Int) : Int := if c < 0 then -((q - 2 * c) / (2 * q)) else (2 * c + q) / (2 * q)
def mulF (c q : Int) : Int := c * q
def twoAt (f : Int → Int → Int) (l m : List Int) (i : Nat) : Int := f (l.getD i 0) (m.getD i 0)
def twoL (f : Int → Int → Int) (l m : List Int) : List Int := (List.range 64).map (twoAt f l m)
def twoE (l m : List Int) (most : Int) : Int := if l.length ≠ 64 ∨ m.length ≠ 64 then 3 else if fitE m 1 65535 ≠ 0 ∨ fitE l (-most) most ≠ 0 then 2 else 0
theorem twoE_long {l m : List Int} {most : Int} (h : l.length ≠ 64 ∨ m.length ≠ 64) : twoE l m most = 3 := if_pos h
theorem twoE_bad {l m : List Int} {most : Int} (h1 : l.length = 64) (h2 : m.length = 64) (h : fitE m 1 65535 ≠ 0 ∨ fitE l (-most) most ≠ 0) : twoE l m most = 2 := by
  unfold twoE; rw [if_neg (by omega), if_pos h]
theorem twoE_ok {l m : List Int} {most : Int} (h1 : fitE m 1 65535 = 0) (h2 : fitE l (-most) most = 0) : twoE l m most = 0 := by
  have a := (fitE_zero h1).1
  have b := (fitE_zero h2).1
  unfold twoE; rw [if_neg (by omega), if_neg (by omega)]
theorem fitE_at {l : List Int} {lo hi : Int} (h : fitE l lo hi = 0) (k : Nat) (hk : k < 64) : lo ≤ l.getD k 0 ∧ l.getD k 0 ≤ hi := by
  obtain ⟨hl, hw⟩ := fitE_zero h
  rw [List.getD_eq_getElem?_getD, List.getElem?_eq_getElem (by omega)]
  exact hw _ (List.getElem_mem (by omega))
theorem quo_range {a b : Int} (ha : 0 ≤ a) (_hb : 1 ≤ b) : 0 ≤ a / b ∧ a / b ≤ a := ⟨Int.ediv_nonneg ha (by omega), Int.ediv_le_self _ ha⟩
theorem divF_neg {c q : Int} (h : c < 0) : divF c q = -((q - 2 * c) / (2 * q)) := if_pos h
theorem divF_pos {c q : Int} (h : ¬ c < 0) : divF c q = (2 * c + q) / (2 * q) := if_neg h
theorem mulF_range {c q : Int} (hc : -32768 ≤ c) (hc' : c ≤ 32768) (hq : 1 ≤ q) (hq' : q ≤ 65535) : -2147483648 ≤ mulF c q ∧ mulF c q ≤ 2147483648 := by
  have h := mul_within (A := 32768) (B := 65536) (x := c) (y := q) ⟨hc, hc'⟩ ⟨by omega, by omega⟩
  simp only [Nat.reduceMul] at h
  exact h
end Go.Proofs.Ytdpccgnmlfakfaa.dm
