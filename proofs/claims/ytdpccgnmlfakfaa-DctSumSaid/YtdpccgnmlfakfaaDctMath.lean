/- Plain arithmetic of the cosine transform: the basis, the double sums, fits. No program in sight. -/
import Derived.KernelRfl
namespace Go.Proofs.Ytdpccgnmlfakfaa.dm

def kk (t : Nat) : Int := [0, 8035, 7568, 6811, 5793, 4551, 3135, 1598, 0].getD t 0
def fold32 (t : Nat) : Nat := if t ≤ 16 then t else 32 - t
/-- a number of the basis -/
def bas (u x : Nat) : Int := if u = 0 then 5793 else if 8 < fold32 ((2 * x + 1) * u % 32) then - kk (16 - fold32 ((2 * x + 1) * u % 32)) else kk (fold32 ((2 * x + 1) * u % 32))
/-- the table, column by column, as far as column x, row u -/
def tabP (x u : Nat) : List Int := (List.range 64).map fun i => if i % 8 < x ∨ (i % 8 = x ∧ i / 8 < u) then bas (i / 8) (i % 8) else 0
def basL : List Int := (List.range 64).map fun i => bas (i / 8) (i % 8)
/-- the table on its side -/
def basT : List Int := (List.range 64).map fun i => bas (i % 8) (i / 8)
theorem tabP_length (x u : Nat) : (tabP x u).length = 64 := by simp [tabP]
theorem tabP_zero : tabP 0 0 = List.replicate 64 0 := by decide +kernel
theorem tabP_col (x : Nat) : tabP x 8 = tabP (x + 1) 0 := by
  unfold tabP
  apply List.map_congr_left
  intro i hi
  have := List.mem_range.1 hi
  have e : (i % 8 < x ∨ i % 8 = x ∧ i / 8 < 8) ↔ (i % 8 < x + 1 ∨ i % 8 = x + 1 ∧ i / 8 < 0) := by omega
  simp only [e]
theorem tabP_done : tabP 8 0 = basL := by
  unfold tabP basL
  apply List.map_congr_left
  intro i hi
  have := List.mem_range.1 hi
  rw [if_pos (by omega)]
theorem tabP_get (x u i : Nat) (hi : i < 64) : (tabP x u).getD i 0 = if i % 8 < x ∨ (i % 8 = x ∧ i / 8 < u) then bas (i / 8) (i % 8) else 0 := by
  simp [tabP, List.getD_eq_getElem?_getD, hi]
theorem tabP_set (x u : Nat) (hx : x < 8) : (tabP x u).set (u * 8 + x) (bas u x) = tabP x (u + 1) := by
  apply List.ext_getElem
  · simp [tabP]
  · intro i h1 h2
    have hi : i < 64 := by simpa [tabP] using h2
    rw [List.getElem_set]
    simp only [tabP, List.getElem_map, List.getElem_range]
    by_cases e : u * 8 + x = i
    · rw [if_pos e]
      subst e
      have e1 : (u * 8 + x) / 8 = u := by omega
      have e2 : (u * 8 + x) % 8 = x := by omega
      rw [e1, e2, if_pos (by omega)]
    · rw [if_neg e]
      have : (i % 8 < x ∨ i % 8 = x ∧ i / 8 < u) ↔ (i % 8 < x ∨ i % 8 = x ∧ i / 8 < u + 1) := by omega
      simp only [this]

theorem fold32_le (t : Nat) (h : t < 32) : fold32 t ≤ 16 := by unfold fold32; split <;> omega
theorem bas_small (u x : Nat) (hu : u ≠ 0) (h : fold32 ((2 * x + 1) * u % 32) ≤ 8) : bas u x = kk (fold32 ((2 * x + 1) * u % 32)) := by
  unfold bas; rw [if_neg hu, if_neg (by omega)]
theorem bas_great (u x : Nat) (hu : u ≠ 0) (h : 8 < fold32 ((2 * x + 1) * u % 32)) : bas u x = - kk (16 - fold32 ((2 * x + 1) * u % 32)) := by
  unfold bas; rw [if_neg hu, if_pos h]
theorem kk_range (t : Nat) : 0 ≤ kk t ∧ kk t ≤ 8035 := by
  unfold kk
  rcases (show t = 0 ∨ t = 1 ∨ t = 2 ∨ t = 3 ∨ t = 4 ∨ t = 5 ∨ t = 6 ∨ t = 7 ∨ 8 ≤ t by omega) with rfl | rfl | rfl | rfl | rfl | rfl | rfl | rfl | h
  all_goals try decide
  have : [0, 8035, 7568, 6811, 5793, 4551, 3135, 1598, 0].getD t (0 : Int) = 0 := by
    rcases (show t = 8 ∨ 9 ≤ t by omega) with rfl | h
    · rfl
    · simp [List.getD_eq_getElem?_getD, List.getElem?_eq_none (show [0, 8035, 7568, 6811, 5793, 4551, 3135, 1598, (0 : Int)].length ≤ t from h)]
  omega
/-- a block filled column by column, as far as column x, row u -/
def part (f : Nat → Int) (x u : Nat) : List Int := (List.range 64).map fun i => if i % 8 < x ∨ (i % 8 = x ∧ i / 8 < u) then f i else 0
theorem part_length (f : Nat → Int) (x u : Nat) : (part f x u).length = 64 := by simp [part]
theorem part_zero (f : Nat → Int) : part f 0 0 = List.replicate 64 0 := by
  have : part f 0 0 = (List.range 64).map fun _ => (0 : Int) := by
    unfold part
    apply List.map_congr_left
    intro i _
    rw [if_neg (by omega)]
  rw [this]
  decide +kernel
theorem part_col (f : Nat → Int) (x : Nat) : part f x 8 = part f (x + 1) 0 := by
  unfold part
  apply List.map_congr_left
  intro i hi
  have := List.mem_range.1 hi
  have e : (i % 8 < x ∨ i % 8 = x ∧ i / 8 < 8) ↔ (i % 8 < x + 1 ∨ i % 8 = x + 1 ∧ i / 8 < 0) := by omega
  simp only [e]
theorem part_done (f : Nat → Int) : part f 8 0 = (List.range 64).map f := by
  unfold part
  apply List.map_congr_left
  intro i hi
  have := List.mem_range.1 hi
  rw [if_pos (by omega)]
theorem part_set (f : Nat → Int) (x u : Nat) (hx : x < 8) : (part f x u).set (u * 8 + x) (f (u * 8 + x)) = part f x (u + 1) := by
  apply List.ext_getElem
  · simp [part]
  · intro i h1 h2
    rw [List.getElem_set]
    simp only [part, List.getElem_map, List.getElem_range]
    by_cases e : u * 8 + x = i
    · rw [if_pos e]
      subst e
      rw [if_pos (by omega)]
    · rw [if_neg e]
      have : (i % 8 < x ∨ i % 8 = x ∧ i / 8 < u) ↔ (i % 8 < x ∨ i % 8 = x ∧ i / 8 < u + 1) := by omega
      simp only [this]
/-- a block filled in order, as far as n -/
def partR (f : Nat → Int) (n : Nat) : List Int := (List.range 64).map fun i => if i < n then f i else 0
theorem partR_length (f : Nat → Int) (n : Nat) : (partR f n).length = 64 := by simp [partR]
theorem partR_zero (f : Nat → Int) : partR f 0 = List.replicate 64 0 := by
  have : partR f 0 = (List.range 64).map fun _ => (0 : Int) := by
    unfold partR
    apply List.map_congr_left
    intro i _
    rw [if_neg (by omega)]
  rw [this]
  decide +kernel
theorem partR_done (f : Nat → Int) : partR f 64 = (List.range 64).map f := by
  unfold partR
  apply List.map_congr_left
  intro i hi
  have := List.mem_range.1 hi
  rw [if_pos this]
theorem partR_set (f : Nat → Int) (n : Nat) : (partR f n).set n (f n) = partR f (n + 1) := by
  apply List.ext_getElem
  · simp [partR]
  · intro i h1 h2
    rw [List.getElem_set]
    simp only [partR, List.getElem_map, List.getElem_range]
    by_cases e : n = i
    · rw [if_pos e]
      subst e
      rw [if_pos (by omega)]
    · rw [if_neg e]
      have : (i < n) ↔ (i < n + 1) := by omega
      simp only [this]
def asideAt (b : List Int) (i : Nat) : Int := b.getD (i % 8 * 8 + i / 8) 0
def asideL (b : List Int) : List Int := (List.range 64).map (asideAt b)
theorem asideAt_at (b : List Int) (x u : Nat) (hx : x < 8) : asideAt b (u * 8 + x) = b.getD (x * 8 + u) 0 := by
  unfold asideAt
  rw [show (u * 8 + x) % 8 = x by omega, show (u * 8 + x) / 8 = u by omega]
theorem aside_bas : asideL basL = basT := by decide +kernel
/-- eight numbers' sum -/
def sum8 (f : Nat → Int) : Nat → Int
  | 0 => 0
  | n + 1 => sum8 f n + f n
/-- a turn: out[8k + r] = the sum over i of b[k][i] * l[8r + i] -/
def turnAt (l b : List Int) (j : Nat) : Int := sum8 (fun i => b.getD (8 * (j / 8) + i) 0 * l.getD (8 * (j % 8) + i) 0) 8
def turn (l b : List Int) : List Int := (List.range 64).map (turnAt l b)
theorem turn_length (l b : List Int) : (turn l b).length = 64 := by simp [turn]
theorem turnAt_at (l b : List Int) (r k : Nat) (hr : r < 8) : turnAt l b (k * 8 + r) = sum8 (fun i => b.getD (k * 8 + i) 0 * l.getD (8 * r + i) 0) 8 := by
  unfold turnAt
  rw [show (k * 8 + r) / 8 = k by omega, show (k * 8 + r) % 8 = r by omega, Nat.mul_comm 8 k]
/-- all numbers within a bound -/
def Within (M : Nat) (l : List Int) : Prop := ∀ x ∈ l, -(M : Int) ≤ x ∧ x ≤ M
theorem Within.getD {M : Nat} {l : List Int} (h : Within M l) (i : Nat) : -(M : Int) ≤ l.getD i 0 ∧ l.getD i 0 ≤ M := by
  rw [List.getD_eq_getElem?_getD]
  by_cases hi : i < l.length
  · rw [List.getElem?_eq_getElem hi]; exact h _ (List.getElem_mem hi)
  · rw [List.getElem?_eq_none (by omega)]
    show -(M : Int) ≤ 0 ∧ (0 : Int) ≤ M
    omega
theorem mul_within {A B : Nat} {x y : Int} (hx : -(A : Int) ≤ x ∧ x ≤ A) (hy : -(B : Int) ≤ y ∧ y ≤ B) : -((A * B : Nat) : Int) ≤ x * y ∧ x * y ≤ ((A * B : Nat) : Int) := by
  have h1 : x.natAbs ≤ A := by omega
  have h2 : y.natAbs ≤ B := by omega
  have h3 : (x * y).natAbs ≤ A * B := by rw [Int.natAbs_mul]; exact Nat.mul_le_mul h1 h2
  omega
theorem sum8_within {M : Nat} {f : Nat → Int} (h : ∀ i, -(M : Int) ≤ f i ∧ f i ≤ M) (n : Nat) : -((n * M : Nat) : Int) ≤ sum8 f n ∧ sum8 f n ≤ ((n * M : Nat) : Int) := by
  induction n with
  | zero => simp [sum8]
  | succ n ih =>
    have := h n
    have e : (n + 1) * M = n * M + M := Nat.succ_mul n M
    rw [e]
    simp only [sum8]
    omega
theorem turn_within {A M : Nat} {l b : List Int} (hb : Within A b) (hl : Within M l) : Within (8 * (A * M)) (turn l b) := by
  intro x hx
  obtain ⟨j, _, rfl⟩ := List.mem_map.1 hx
  exact sum8_within (fun i => mul_within (hb.getD _) (hl.getD _)) 8
theorem bas_within : Within 8192 basL := by unfold Within; decide +kernel
theorem basT_within : Within 8192 basT := by unfold Within; decide +kernel
/-- what is rounded -/
def rnd (v : Int) : Int := (v + 134217728) / 268435456
def clamp8 (v : Int) : Int := if v + 128 < 0 then 0 else if 255 < v + 128 then 255 else v + 128
def fwd (l : List Int) : List Int := (turn (turn l basL) basL).map rnd
def inv (l : List Int) : List Int := (turn (turn l basT) basT).map fun v => clamp8 (rnd v)
def fitE (l : List Int) (lo hi : Int) : Int := if l.length ≠ 64 then 3 else if ∃ x ∈ l, x < lo ∨ hi < x then 2 else 0

/-! ### the least and the greatest -/
def minTo (l : List Int) : Nat → Int
  | 0 => l.getD 0 0
  | k + 1 => if l.getD k 0 < minTo l k then l.getD k 0 else minTo l k
def maxTo (l : List Int) : Nat → Int
  | 0 => l.getD 0 0
  | k + 1 => if maxTo l k < l.getD k 0 then l.getD k 0 else maxTo l k
theorem minTo_one (l : List Int) : minTo l 1 = l.getD 0 0 := by simp [minTo]
theorem maxTo_one (l : List Int) : maxTo l 1 = l.getD 0 0 := by simp [maxTo]
theorem minTo_lt (l : List Int) (lo : Int) (k : Nat) (hk : 0 < k) : minTo l k < lo ↔ ∃ i, i < k ∧ l.getD i 0 < lo := by
  induction k with
  | zero => omega
  | succ k ih =>
    by_cases h0 : k = 0
    · subst h0
      rw [minTo_one]
      exact ⟨fun h => ⟨0, by omega, h⟩, fun ⟨i, hi, h⟩ => by have e : i = 0 := (by omega); subst e; exact h⟩
    · have ih := ih (by omega)
      have e : minTo l (k + 1) < lo ↔ (l.getD k 0 < lo ∨ minTo l k < lo) := by
        simp only [minTo]
        split <;> omega
      rw [e, ih]
      constructor
      · rintro (h | ⟨i, hi, h⟩)
        · exact ⟨k, by omega, h⟩
        · exact ⟨i, by omega, h⟩
      · rintro ⟨i, hi, h⟩
        by_cases hik : i = k
        · subst hik; exact .inl h
        · exact .inr ⟨i, by omega, h⟩
theorem maxTo_lt (l : List Int) (hi : Int) (k : Nat) (hk : 0 < k) : hi < maxTo l k ↔ ∃ i, i < k ∧ hi < l.getD i 0 := by
  induction k with
  | zero => omega
  | succ k ih =>
    by_cases h0 : k = 0
    · subst h0
      rw [maxTo_one]
      exact ⟨fun h => ⟨0, by omega, h⟩, fun ⟨i, hi, h⟩ => by have e : i = 0 := (by omega); subst e; exact h⟩
    · have ih := ih (by omega)
      have e : hi < maxTo l (k + 1) ↔ (hi < l.getD k 0 ∨ hi < maxTo l k) := by
        simp only [maxTo]
        split <;> omega
      rw [e, ih]
      constructor
      · rintro (h | ⟨i, hi, h⟩)
        · exact ⟨k, by omega, h⟩
        · exact ⟨i, by omega, h⟩
      · rintro ⟨i, hi, h⟩
        by_cases hik : i = k
        · subst hik; exact .inl h
        · exact .inr ⟨i, by omega, h⟩
theorem mem_getD {l : List Int} {P : Int → Prop} : (∃ x ∈ l, P x) ↔ ∃ i, i < l.length ∧ P (l.getD i 0) := by
  constructor
  · rintro ⟨x, hx, h⟩
    obtain ⟨i, hi, rfl⟩ := List.getElem_of_mem hx
    refine ⟨i, hi, ?_⟩
    rw [List.getD_eq_getElem?_getD, List.getElem?_eq_getElem hi]
    exact h
  · rintro ⟨i, hi, h⟩
    rw [List.getD_eq_getElem?_getD, List.getElem?_eq_getElem hi] at h
    exact ⟨_, List.getElem_mem hi, h⟩
theorem fit_bad {l : List Int} {lo hi : Int} (hl : l.length = 64) : (∃ x ∈ l, x < lo ∨ hi < x) ↔ (minTo l 64 < lo ∨ hi < maxTo l 64) := by
  rw [mem_getD (P := fun x => x < lo ∨ hi < x), minTo_lt l lo 64 (by omega), maxTo_lt l hi 64 (by omega), hl]
  constructor
  · rintro ⟨i, hi, h | h⟩
    · exact .inl ⟨i, hi, h⟩
    · exact .inr ⟨i, hi, h⟩
  · rintro (⟨i, hi, h⟩ | ⟨i, hi, h⟩)
    · exact ⟨i, hi, .inl h⟩
    · exact ⟨i, hi, .inr h⟩
theorem fitE_long {l : List Int} {lo hi : Int} (h : l.length ≠ 64) : fitE l lo hi = 3 := if_pos h
theorem fitE_bad {l : List Int} {lo hi : Int} (hl : l.length = 64) (h : minTo l 64 < lo ∨ hi < maxTo l 64) : fitE l lo hi = 2 := by
  unfold fitE
  rw [if_neg (by omega), if_pos (fit_bad hl |>.2 h)]
theorem fitE_good {l : List Int} {lo hi : Int} (hl : l.length = 64) (h : ¬ (minTo l 64 < lo ∨ hi < maxTo l 64)) : fitE l lo hi = 0 := by
  unfold fitE
  rw [if_neg (by omega), if_neg (fun hb => h (fit_bad hl |>.1 hb))]
theorem fitE_zero {l : List Int} {lo hi : Int} (h : fitE l lo hi = 0) : l.length = 64 ∧ ∀ x ∈ l, lo ≤ x ∧ x ≤ hi := by
  unfold fitE at h
  by_cases h1 : l.length ≠ 64
  · rw [if_pos h1] at h; omega
  · rw [if_neg h1] at h
    by_cases h2 : ∃ x ∈ l, x < lo ∨ hi < x
    · rw [if_pos h2] at h; omega
    · refine ⟨by omega, fun x hx => ?_⟩
      have : ¬ (x < lo ∨ hi < x) := fun hb => h2 ⟨x, hx, hb⟩
      omega
end Go.Proofs.Ytdpccgnmlfakfaa.dm
