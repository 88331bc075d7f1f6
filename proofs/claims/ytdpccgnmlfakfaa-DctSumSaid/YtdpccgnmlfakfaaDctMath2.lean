/- Plain arithmetic: the reference's double sum is the two turns. No program in sight. -/
import Derived.Test.YtdpccgnmlfakfaaDctMath
namespace Go.Proofs.Ytdpccgnmlfakfaa.dm

def val (bx l : List Int) (j : Nat) : Int := rnd (turnAt (turn l bx) bx j)
theorem fwd_eq (l : List Int) : fwd l = (List.range 64).map (val basL l) := by
  unfold fwd
  rw [turn, List.map_map]
  rfl
theorem inv_eq (l : List Int) : inv l = (List.range 64).map (fun j => clamp8 (val basT l j)) := by
  unfold inv
  rw [turn, List.map_map]
  rfl
theorem take_range {f : Nat → Int} {j : Nat} (h : j < 64) : ((List.range 64).map f).take j ++ [f j] = ((List.range 64).map f).take (j + 1) := by
  rw [List.take_add_one, List.getElem?_map, List.getElem?_range h]
  rfl
def row8 (bx l : List Int) (A B C D : Nat) : Int := sum8 (fun d => bx.getD (B * 8 + d) 0 * bx.getD (A * 8 + C) 0 * l.getD (C * 8 + d) 0) D
def acc (bx l : List Int) (A B C D : Nat) : Int := sum8 (fun c => row8 bx l A B c 8) C + row8 bx l A B C D
theorem acc_zero (bx l : List Int) (A B : Nat) : acc bx l A B 0 0 = 0 := rfl
theorem acc_next (bx l : List Int) (A B C : Nat) : acc bx l A B C 8 = acc bx l A B (C + 1) 0 := by
  show sum8 _ C + row8 bx l A B C 8 = (sum8 _ C + row8 bx l A B C 8) + 0
  omega
theorem acc_step (bx l : List Int) (A B C D : Nat) : acc bx l A B C (D + 1) = acc bx l A B C D + bx.getD (B * 8 + D) 0 * bx.getD (A * 8 + C) 0 * l.getD (C * 8 + D) 0 := by
  exact (Int.add_assoc _ _ _).symm
theorem sum8_congr {f g : Nat → Int} (n : Nat) (h : ∀ i, i < n → f i = g i) : sum8 f n = sum8 g n := by
  induction n with
  | zero => rfl
  | succ n ih => show sum8 f n + f n = sum8 g n + g n; rw [ih (fun i hi => h i (by omega)), h n (by omega)]
theorem sum8_mul (f : Nat → Int) (c : Int) (n : Nat) : sum8 (fun i => f i * c) n = sum8 f n * c := by
  induction n with
  | zero => simp [sum8]
  | succ n ih => show sum8 (fun i => f i * c) n + f n * c = (sum8 f n + f n) * c; rw [ih, Int.add_mul]
theorem turn_getD (l b : List Int) (j : Nat) (hj : j < 64) : (turn l b).getD j 0 = turnAt l b j := by
  simp [turn, List.getD_eq_getElem?_getD, hj]
theorem acc_done (bx l : List Int) (A B : Nat) (_hA : A < 8) (hB : B < 8) : acc bx l A B 8 0 = turnAt (turn l bx) bx (A * 8 + B) := by
  rw [turnAt_at _ _ B A hB]
  show sum8 (fun c => row8 bx l A B c 8) 8 + 0 = _
  rw [Int.add_zero]
  apply sum8_congr
  intro c hc
  rw [show 8 * B + c = B * 8 + c by omega, turn_getD _ _ _ (by omega), turnAt_at l bx c B hc]
  unfold row8
  rw [Int.mul_comm, ← sum8_mul]
  apply sum8_congr
  intro d _
  rw [show 8 * c + d = c * 8 + d by omega, Int.mul_right_comm]
theorem acc_in {bx l : List Int} {M : Nat} (A B C D : Nat) (hC : C ≤ 8) (hD : D ≤ 8) (ht : ∀ c d, -(M : Int) ≤ bx.getD (B * 8 + d) 0 * bx.getD (A * 8 + c) 0 * l.getD (c * 8 + d) 0 ∧ bx.getD (B * 8 + d) 0 * bx.getD (A * 8 + c) 0 * l.getD (c * 8 + d) 0 ≤ (M : Int)) :
    -((72 * M : Nat) : Int) ≤ acc bx l A B C D ∧ acc bx l A B C D ≤ ((72 * M : Nat) : Int) := by
  have hr : ∀ c D', D' ≤ 8 → -((8 * M : Nat) : Int) ≤ row8 bx l A B c D' ∧ row8 bx l A B c D' ≤ ((8 * M : Nat) : Int) := fun c D' hD' => by
    have := sum8_within (M := M) (f := fun d => bx.getD (B * 8 + d) 0 * bx.getD (A * 8 + c) 0 * l.getD (c * 8 + d) 0) (fun d => ht c d) D'
    have hjM : D' * M ≤ 8 * M := Nat.mul_le_mul_right _ hD'
    unfold row8
    omega
  have h1 := sum8_within (M := 8 * M) (f := fun c => row8 bx l A B c 8) (fun c => hr c 8 (by omega)) C
  have h2 := hr C D hD
  have hjM : C * (8 * M) ≤ 8 * (8 * M) := Nat.mul_le_mul_right _ hC
  unfold acc
  omega
theorem term_within {bx l : List Int} (hb : Within 8192 bx) (hl : Within 1048576 l) (i j k : Nat) : -70368744177664 ≤ bx.getD i 0 * bx.getD j 0 * l.getD k 0 ∧ bx.getD i 0 * bx.getD j 0 * l.getD k 0 ≤ 70368744177664 ∧ -67108864 ≤ bx.getD i 0 * bx.getD j 0 ∧ bx.getD i 0 * bx.getD j 0 ≤ 67108864 := by
  have h1 := mul_within (A := 8192) (B := 8192) (hb.getD i) (hb.getD j)
  have h2 := mul_within (A := 67108864) (B := 1048576) (x := bx.getD i 0 * bx.getD j 0) (by simpa using h1) (hl.getD k)
  simp only [Nat.reduceMul] at h1 h2
  refine ⟨?_, ?_, ?_, ?_⟩
  · exact h2.1
  · exact h2.2
  · exact h1.1
  · exact h1.2
theorem acc_within {bx l : List Int} (hb : Within 8192 bx) (hl : Within 1048576 l) (A B C D : Nat) (hC : C ≤ 8) (hD : D ≤ 8) : -5066549580791808 ≤ acc bx l A B C D ∧ acc bx l A B C D ≤ 5066549580791808 := by
  have h := acc_in (bx := bx) (l := l) (M := 70368744177664) A B C D hC hD (fun c d => ⟨(term_within hb hl _ _ _).1, (term_within hb hl _ _ _).2.1⟩)
  exact h
theorem basT_get : ∀ B, B < 8 → ∀ D, D < 8 → basT.getD (B * 8 + D) 0 = basL.getD (D * 8 + B) 0 := by decide +kernel
end Go.Proofs.Ytdpccgnmlfakfaa.dm
