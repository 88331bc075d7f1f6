/- Plain arithmetic: there and back; the first coefficient. No program in sight. -/
import Derived.Test.YtdpccgnmlfakfaaDctMath3
namespace Go.Proofs.Ytdpccgnmlfakfaa.dm

theorem sum8_add (f g : Nat → Int) (n : Nat) : sum8 (fun i => f i + g i) n = sum8 f n + sum8 g n := by
  induction n with
  | zero => rfl
  | succ n ih => show sum8 (fun i => f i + g i) n + (f n + g n) = (sum8 f n + f n) + (sum8 g n + g n); rw [ih]; omega
theorem sum8_mulL (f : Nat → Int) (c : Int) (n : Nat) : sum8 (fun i => c * f i) n = c * sum8 f n := by
  rw [Int.mul_comm, ← sum8_mul]
  exact sum8_congr n (fun i _ => Int.mul_comm _ _)
theorem sum8_zero (n : Nat) : sum8 (fun _ => 0) n = 0 := by
  induction n with
  | zero => rfl
  | succ n ih => show sum8 (fun _ => 0) n + 0 = 0; rw [ih]; rfl
theorem sum8_swap (f : Nat → Nat → Int) (n m : Nat) : sum8 (fun i => sum8 (fun j => f i j) m) n = sum8 (fun j => sum8 (fun i => f i j) n) m := by
  induction n with
  | zero => exact (sum8_zero m).symm
  | succ n ih =>
    show sum8 (fun i => sum8 (fun j => f i j) m) n + sum8 (fun j => f n j) m = sum8 (fun j => sum8 (fun i => f i j) n + f n j) m
    rw [sum8_add, ih]
theorem sum8_bound {f g : Nat → Int} (n : Nat) (h : ∀ i, i < n → -(g i) ≤ f i ∧ f i ≤ g i) : -(sum8 g n) ≤ sum8 f n ∧ sum8 f n ≤ sum8 g n := by
  induction n with
  | zero => exact ⟨Int.le_refl _, Int.le_refl _⟩
  | succ n ih =>
    have h1 := ih (fun i hi => h i (by omega))
    have h2 := h n (by omega)
    show -(sum8 g n + g n) ≤ sum8 f n + f n ∧ sum8 f n + f n ≤ sum8 g n + g n
    omega
theorem sum8_pick (f : Nat → Int) (k n : Nat) : sum8 (fun i => if i = k then f i else 0) n = if k < n then f k else 0 := by
  induction n with
  | zero => rfl
  | succ n ih =>
    show sum8 (fun i => if i = k then f i else 0) n + (if n = k then f n else 0) = _
    rw [ih]
    by_cases h : k < n
    · rw [if_pos h, if_neg (by omega), if_pos (by omega)]; omega
    · rw [if_neg h]
      by_cases h' : n = k
      · subst h'; rw [if_pos rfl, if_pos (by omega)]; omega
      · rw [if_neg h', if_neg (by omega)]; rfl

def D (f : Nat → Nat → Int) : Int := sum8 (fun c => sum8 (fun d => f c d) 8) 8
theorem D_congr {f g : Nat → Nat → Int} (h : ∀ c, c < 8 → ∀ d, d < 8 → f c d = g c d) : D f = D g := sum8_congr 8 (fun c hc => sum8_congr 8 (fun d hd => h c hc d hd))
theorem D_add (f g : Nat → Nat → Int) : D (fun c d => f c d + g c d) = D f + D g := by
  unfold D
  rw [← sum8_add]
  exact sum8_congr 8 (fun c _ => sum8_add _ _ 8)
theorem D_mulL (f : Nat → Nat → Int) (k : Int) : D (fun c d => k * f c d) = k * D f := by
  unfold D
  rw [← sum8_mulL]
  exact sum8_congr 8 (fun c _ => sum8_mulL _ _ 8)
theorem D_swap (f : Nat → Nat → Nat → Nat → Int) : D (fun v u => D (fun c d => f v u c d)) = D (fun c d => D (fun v u => f v u c d)) := by
  unfold D
  have e1 : ∀ v u, sum8 (fun c => sum8 (fun d => f v u c d) 8) 8 = sum8 (fun c => sum8 (fun d => f v u c d) 8) 8 := fun _ _ => rfl
  -- move c out past u, then past v; then d
  have s1 : ∀ v, sum8 (fun u => sum8 (fun c => sum8 (fun d => f v u c d) 8) 8) 8 = sum8 (fun c => sum8 (fun d => sum8 (fun u => f v u c d) 8) 8) 8 := fun v => by
    rw [sum8_swap]
    exact sum8_congr 8 (fun c _ => sum8_swap _ 8 8)
  rw [sum8_congr 8 (fun v _ => s1 v), sum8_swap]
  refine sum8_congr 8 (fun c _ => ?_)
  rw [sum8_swap]
theorem D_bound {f g : Nat → Nat → Int} (h : ∀ c, c < 8 → ∀ d, d < 8 → -(g c d) ≤ f c d ∧ f c d ≤ g c d) : -(D g) ≤ D f ∧ D f ≤ D g := sum8_bound 8 (fun c hc => sum8_bound 8 (fun d hd => h c hc d hd))
theorem D_pick (f : Nat → Nat → Int) (y x : Nat) (hy : y < 8) (hx : x < 8) : D (fun c d => if c = y ∧ d = x then f c d else 0) = f y x := by
  unfold D
  have e : ∀ c, c < 8 → sum8 (fun d => if c = y ∧ d = x then f c d else 0) 8 = if c = y then f c x else 0 := fun c _ => by
    by_cases h : c = y
    · subst h
      rw [if_pos rfl]
      have := sum8_pick (fun d => f c d) x 8
      rw [if_pos hx] at this
      rw [← this]
      exact sum8_congr 8 (fun d _ => by by_cases hd : d = x <;> simp [hd])
    · rw [if_neg h]
      exact (sum8_congr 8 (fun d _ => by rw [if_neg (by omega)])).trans (sum8_zero 8)
  rw [sum8_congr 8 e, sum8_pick (fun c => f c x) y 8, if_pos hy]
theorem D_prod (f g : Nat → Int) : D (fun c d => f c * g d) = sum8 f 8 * sum8 g 8 := by
  unfold D
  rw [sum8_congr 8 (fun c _ => sum8_mulL g (f c) 8), sum8_mul]

def b (u x : Nat) : Int := basL.getD (u * 8 + x) 0
/-- the double sums -/
def fS (l : List Int) (v u : Nat) : Int := D (fun c d => b u d * b v c * l.getD (c * 8 + d) 0)
def iS (l : List Int) (y x : Nat) : Int := D (fun v u => b u x * b v y * l.getD (v * 8 + u) 0)
theorem acc_D (bx l : List Int) (A B : Nat) : acc bx l A B 8 0 = D (fun c d => bx.getD (B * 8 + d) 0 * bx.getD (A * 8 + c) 0 * l.getD (c * 8 + d) 0) := by
  show sum8 (fun c => row8 bx l A B c 8) 8 + 0 = _
  rw [Int.add_zero]
  rfl
theorem fwd_at (l : List Int) (v u : Nat) (hv : v < 8) (hu : u < 8) : (fwd l).getD (v * 8 + u) 0 = rnd (fS l v u) := by
  rw [fwd_eq]
  simp only [List.getD_eq_getElem?_getD, List.getElem?_map, List.getElem?_range (show v * 8 + u < 64 by omega)]
  show val basL l (v * 8 + u) = _
  unfold val
  rw [← acc_done _ _ v u hv hu, acc_D]
  rfl
theorem inv_at (l : List Int) (y x : Nat) (hy : y < 8) (hx : x < 8) : (inv l).getD (y * 8 + x) 0 = clamp8 (rnd (iS l y x)) := by
  rw [inv_eq]
  simp only [List.getD_eq_getElem?_getD, List.getElem?_map, List.getElem?_range (show y * 8 + x < 64 by omega)]
  show clamp8 (val basT l (y * 8 + x)) = _
  unfold val
  rw [← acc_done _ _ y x hy hx, acc_D]
  congr 2
  exact D_congr (fun c hc d hd => by rw [basT_get x hx d hd, basT_get y hy c hc]; rfl)
theorem rnd_err (s : Int) : -134217728 ≤ 268435456 * rnd s - s ∧ 268435456 * rnd s - s ≤ 134217728 := by
  unfold rnd
  omega

def G (x d : Nat) : Int := sum8 (fun u => b u x * b u d) 8
def ab (x : Int) : Int := if x < 0 then -x else x
theorem ab_bound (x : Int) : -(ab x) ≤ x ∧ x ≤ ab x := by unfold ab; split <;> omega
theorem ab_nonneg (x : Int) : 0 ≤ ab x := by unfold ab; split <;> omega
def dev (y x c d : Nat) : Int := G y c * G x d - (if c = y ∧ d = x then 72057594037927936 else 0)
theorem mul_ab {w z : Int} {M : Int} (h : -M ≤ z) (h' : z ≤ M) : -(ab w * M) ≤ w * z ∧ w * z ≤ ab w * M := by
  unfold ab
  split
  · have h1 := Int.mul_le_mul_of_nonneg_left h (show 0 ≤ -w by omega)
    have h2 := Int.mul_le_mul_of_nonneg_left h' (show 0 ≤ -w by omega)
    simp only [Int.neg_mul, Int.mul_neg, Int.neg_neg] at h1 h2 ⊢
    omega
  · have h1 := Int.mul_le_mul_of_nonneg_left h (show 0 ≤ w by omega)
    have h2 := Int.mul_le_mul_of_nonneg_left h' (show 0 ≤ w by omega)
    simp only [Int.mul_neg] at h1 h2 ⊢
    omega
theorem numbers : ∀ y, y < 8 → ∀ x, x < 8 → D (fun c d => ab (dev y x c d) * 128) + D (fun v u => ab (b u x * b v y) * 134217728) ≤ 360287970189639680 := by decide +kernel
/-- the double sum of the double sums -/
theorem two_sums (l : List Int) (y x : Nat) : D (fun v u => b u x * b v y * fS l v u) = D (fun c d => G y c * G x d * l.getD (c * 8 + d) 0) := by
  unfold fS
  rw [D_congr (fun v _ u _ => (D_mulL (fun c d => b u d * b v c * l.getD (c * 8 + d) 0) (b u x * b v y)).symm), D_swap]
  refine D_congr (fun c _ d _ => ?_)
  have := D_prod (fun v => b v y * b v c) (fun u => b u x * b u d)
  rw [show G y c = sum8 (fun v => b v y * b v c) 8 from rfl, show G x d = sum8 (fun u => b u x * b u d) 8 from rfl, ← this]
  rw [Int.mul_comm (D _), ← D_mulL]
  refine D_congr (fun v _ u _ => ?_)
  simp only [Int.mul_assoc, Int.mul_comm, Int.mul_left_comm]
theorem there_and_back (l : List Int) (hl : ∀ i, -128 ≤ l.getD i 0 ∧ l.getD i 0 ≤ 128) (y x : Nat) (hy : y < 8) (hx : x < 8) : -5 ≤ rnd (iS (fwd l) y x) - l.getD (y * 8 + x) 0 ∧ rnd (iS (fwd l) y x) - l.getD (y * 8 + x) 0 ≤ 5 := by
  have h1 : 268435456 * iS (fwd l) y x = D (fun v u => b u x * b v y * fS l v u) + D (fun v u => b u x * b v y * (268435456 * rnd (fS l v u) - fS l v u)) := by
    unfold iS
    rw [← D_mulL, ← D_add]
    refine D_congr (fun v hv u hu => ?_)
    rw [fwd_at l v u hv hu, ← Int.mul_add]
    rw [show fS l v u + (268435456 * rnd (fS l v u) - fS l v u) = 268435456 * rnd (fS l v u) by omega]
    exact Int.mul_left_comm _ _ _
  rw [two_sums] at h1
  have h2 : D (fun c d => G y c * G x d * l.getD (c * 8 + d) 0) = D (fun c d => dev y x c d * l.getD (c * 8 + d) 0) + 72057594037927936 * l.getD (y * 8 + x) 0 := by
    have hp := D_pick (fun c d => 72057594037927936 * l.getD (c * 8 + d) 0) y x hy hx
    rw [← hp, ← D_add]
    refine D_congr (fun c _ d _ => ?_)
    unfold dev
    rw [Int.sub_mul]
    split <;> omega
  have b1 := D_bound (f := fun c d => dev y x c d * l.getD (c * 8 + d) 0) (g := fun c d => ab (dev y x c d) * 128) (fun c _ d _ => mul_ab (hl _).1 (hl _).2)
  have b2 := D_bound (f := fun v u => b u x * b v y * (268435456 * rnd (fS l v u) - fS l v u)) (g := fun v u => ab (b u x * b v y) * 134217728) (fun v _ u _ => mul_ab (rnd_err _).1 (rnd_err _).2)
  have hN := numbers y hy x hx
  have hr := rnd_err (iS (fwd l) y x)
  generalize D (fun c d => ab (dev y x c d) * 128) = K1 at *
  generalize D (fun v u => ab (b u x * b v y) * 134217728) = K2 at *
  generalize D (fun c d => dev y x c d * l.getD (c * 8 + d) 0) = X1 at *
  generalize D (fun v u => b u x * b v y * (268435456 * rnd (fS l v u) - fS l v u)) = X2 at *
  generalize D (fun c d => G y c * G x d * l.getD (c * 8 + d) 0) = X3 at *
  omega
end Go.Proofs.Ytdpccgnmlfakfaa.dm
