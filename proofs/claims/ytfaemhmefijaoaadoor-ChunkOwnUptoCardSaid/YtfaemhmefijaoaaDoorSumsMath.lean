/- Plain arithmetic of CRC-32 and Adler-32: the step, the table, the folds over bytes. No program in sight. -/
import Derived.KernelRfl
namespace Go.Proofs.YtfaemhmefijaoaaDoor.sm

theorem getD_mem {l : List Int} {k : Nat} (h : k < l.length) : l.getD k 0 ∈ l := by
  rw [List.getD_eq_getElem?_getD, List.getElem?_eq_getElem h]; exact List.getElem_mem h
theorem take_snoc {l : List Int} {k : Nat} (h : k < l.length) : l.take (k + 1) = l.take k ++ [l.getD k 0] := by
  rw [List.getD_eq_getElem?_getD, List.getElem?_eq_getElem h]; exact List.take_succ_eq_append_getElem h
/-- one bit's step of CRC-32 -/
def crcStep (c : Nat) : Nat := if c % 2 = 1 then c / 2 ^^^ 3988292384 else c / 2
/-- k steps -/
def crcSteps : Nat → Nat → Nat
  | 0, c => c
  | k + 1, c => crcStep (crcSteps k c)
/-- the table's number -/
def crcTab (i : Nat) : Nat := crcSteps 8 i
/-- one byte, as the document says -/
def crcByte (c b : Nat) : Nat := crcSteps 8 (c ^^^ b)
/-- a list of bytes -/
def crcRaw (c : Nat) (l : List Int) : Nat := l.foldl (fun c b => crcByte c b.toNat) c
def crcNot (c : Nat) : Nat := c ^^^ 4294967295
def crcOn (sum : Nat) (l : List Int) : Nat := crcNot (crcRaw (crcNot sum) l)

theorem crcStep_xor (a b : Nat) : crcStep (a ^^^ b) = crcStep a ^^^ crcStep b := by
  have h2 : (a ^^^ b) / 2 = a / 2 ^^^ b / 2 := by simpa using Nat.xor_div_two_pow (a := a) (b := b) (n := 1)
  have hm : (a ^^^ b) % 2 = (a % 2 + b % 2) % 2 := by
    have := Nat.xor_mod_two_pow (a := a) (b := b) (n := 1)
    simp only [Nat.pow_one] at this
    rw [this]
    rcases Nat.mod_two_eq_zero_or_one a with h | h <;> rcases Nat.mod_two_eq_zero_or_one b with k | k <;> rw [h, k] <;> decide
  unfold crcStep
  rw [h2, hm]
  rcases Nat.mod_two_eq_zero_or_one a with h | h <;> rcases Nat.mod_two_eq_zero_or_one b with k | k <;> simp only [h, k] <;> simp
  · ac_rfl
  · ac_rfl
  · have e : a / 2 ^^^ 3988292384 ^^^ (b / 2 ^^^ 3988292384) = a / 2 ^^^ b / 2 ^^^ (3988292384 ^^^ 3988292384) := by ac_rfl
    rw [e, Nat.xor_self, Nat.xor_zero]

theorem crcSteps_xor (k a b : Nat) : crcSteps k (a ^^^ b) = crcSteps k a ^^^ crcSteps k b := by
  induction k with
  | zero => rfl
  | succ k ih => simp only [crcSteps, ih, crcStep_xor]

theorem crcStep_double (a : Nat) : crcStep (2 * a) = a := by
  unfold crcStep
  rw [if_neg (by omega)]
  omega

theorem crcSteps_shift (k a : Nat) : crcSteps k (2 ^ k * a) = a := by
  induction k generalizing a with
  | zero => simp [crcSteps]
  | succ k ih =>
    have e : 2 ^ (k + 1) * a = 2 ^ k * (2 * a) := by rw [Nat.pow_succ]; ac_rfl
    rw [crcSteps, e, ih, crcStep_double]

theorem split256 (c : Nat) : c = (2 ^ 8 * (c / 256)) ^^^ (c % 256) := by
  have h : c % 256 < 2 ^ 8 := Nat.mod_lt _ (by decide)
  apply Nat.eq_of_testBit_eq
  intro i
  rw [Nat.testBit_xor]
  have e1 : (c % 256).testBit i = (decide (i < 8) && c.testBit i) := by
    have := Nat.testBit_mod_two_pow c 8 i
    simpa using this
  have e2 : (2 ^ 8 * (c / 256)).testBit i = (decide (8 ≤ i) && c.testBit i) := by
    rw [Nat.testBit_two_pow_mul]
    by_cases hi : 8 ≤ i
    · simp only [hi, decide_true, Bool.true_and]
      have := @Nat.testBit_div_two_pow 8 c (i - 8)
      have e : i - 8 + 8 = i := by omega
      simp only [e] at this
      simpa using this
    · simp [hi]
  rw [e1, e2]
  by_cases hi : i < 8
  · have : ¬ 8 ≤ i := by omega
    simp [hi, this]
  · have : 8 ≤ i := by omega
    simp [hi, this]

theorem byte_div (b : Nat) (h : b < 256) (c : Nat) : (c ^^^ b) / 256 = c / 256 := by
  have e := Nat.xor_div_two_pow (a := c) (b := b) (n := 8)
  have z : b / 2 ^ 8 = 0 := Nat.div_eq_of_lt h
  rw [z, Nat.xor_zero] at e
  exact e
theorem byte_mod (b : Nat) (h : b < 256) (c : Nat) : (c ^^^ b) % 256 = c % 256 ^^^ b := by
  have e := Nat.xor_mod_two_pow (a := c) (b := b) (n := 8)
  have z : b % 2 ^ 8 = b := Nat.mod_eq_of_lt h
  rw [z] at e
  exact e

/-- the table's way is the document's -/
theorem crcByte_tab (c b : Nat) (h : b < 256) : crcTab (c % 256 ^^^ b) ^^^ c / 256 = crcByte c b := by
  have e := split256 (c ^^^ b)
  rw [byte_div b h, byte_mod b h] at e
  have g : crcByte c b = crcSteps 8 (2 ^ 8 * (c / 256) ^^^ (c % 256 ^^^ b)) := congrArg (crcSteps 8) e
  rw [g, crcSteps_xor 8 (2 ^ 8 * (c / 256)), crcSteps_shift, Nat.xor_comm]
  rfl

theorem crcStep_lt {c : Nat} (h : c < 4294967296) : crcStep c < 4294967296 := by
  unfold crcStep
  split
  · exact Nat.xor_lt_two_pow (n := 32) (by omega) (by omega)
  · omega
theorem crcSteps_lt {c : Nat} (k : Nat) (h : c < 4294967296) : crcSteps k c < 4294967296 := by
  induction k with
  | zero => exact h
  | succ k ih => exact crcStep_lt ih
theorem crcTab_lt {i : Nat} (h : i < 4294967296) : crcTab i < 4294967296 := crcSteps_lt 8 h
theorem xor_lt32 {a b : Nat} (h : a < 4294967296) (k : b < 4294967296) : a ^^^ b < 4294967296 := Nat.xor_lt_two_pow (n := 32) h k
theorem xor_lt8 {a b : Nat} (h : a < 256) (k : b < 256) : a ^^^ b < 256 := Nat.xor_lt_two_pow (n := 8) h k
theorem crcByte_lt {c b : Nat} (h : c < 4294967296) (k : b < 256) : crcByte c b < 4294967296 := crcSteps_lt 8 (xor_lt32 h (by omega))
theorem crcNot_lt {c : Nat} (h : c < 4294967296) : crcNot c < 4294967296 := xor_lt32 h (by omega)
theorem crcNot_not (c : Nat) : crcNot (crcNot c) = c := by unfold crcNot; rw [Nat.xor_assoc, Nat.xor_self, Nat.xor_zero]

/-- the list's numbers are bytes -/
def Bytes (l : List Int) : Prop := ∀ x ∈ l, 0 ≤ x ∧ x < 256

theorem crcRaw_lt {c : Nat} {l : List Int} (h : c < 4294967296) (hl : Bytes l) : crcRaw c l < 4294967296 := by
  induction l generalizing c with
  | nil => exact h
  | cons x r ih =>
    have hx := hl x (by simp)
    exact ih (crcByte_lt h (by omega)) fun y hy => hl y (by simp [hy])
theorem crcOn_lt {c : Nat} {l : List Int} (h : c < 4294967296) (hl : Bytes l) : crcOn c l < 4294967296 := crcNot_lt (crcRaw_lt (crcNot_lt h) hl)
theorem crcRaw_snoc (c : Nat) (l : List Int) (x : Int) : crcRaw c (l ++ [x]) = crcByte (crcRaw c l) x.toNat := by simp [crcRaw]
theorem crcRaw_append (c : Nat) (l m : List Int) : crcRaw c (l ++ m) = crcRaw (crcRaw c l) m := by simp [crcRaw]
theorem crcOn_append (c : Nat) (l m : List Int) : crcOn c (l ++ m) = crcOn (crcOn c l) m := by
  unfold crcOn
  rw [crcRaw_append, crcNot_not]

/-! ### a byte that is turned -/
theorem crcStep_inj {a b : Nat} (ha : a < 4294967296) (hb : b < 4294967296) (h : crcStep a = crcStep b) : a = b := by
  have ht : ∀ x, x < 4294967296 → (crcStep x < 2147483648 ↔ x % 2 = 0) := by
    intro x hx
    unfold crcStep
    by_cases h1 : x % 2 = 1
    · rw [if_pos h1]
      have : ¬ (x / 2 ^^^ 3988292384 < 2147483648) := by
        intro hc
        have hs : (x / 2 ^^^ 3988292384).testBit 31 = false := Nat.testBit_lt_two_pow (by omega)
        rw [Nat.testBit_xor] at hs
        have e1 : (x / 2).testBit 31 = false := Nat.testBit_lt_two_pow (by omega)
        rw [e1] at hs
        exact absurd hs (by decide)
      constructor
      · intro hc; exact absurd hc this
      · intro hc; omega
    · rw [if_neg h1]
      constructor
      · intro _; omega
      · intro _; omega
  have hp : a % 2 = b % 2 := by
    have h1 := ht a ha
    have h2 := ht b hb
    rw [h] at h1
    have : a % 2 = 0 ↔ b % 2 = 0 := h1.symm.trans h2
    omega
  unfold crcStep at h
  rw [hp] at h
  by_cases h1 : b % 2 = 1
  · rw [if_pos h1, if_pos h1] at h
    have := congrArg (fun z => z ^^^ 3988292384) h
    simp only [Nat.xor_assoc, Nat.xor_self, Nat.xor_zero] at this
    omega
  · rw [if_neg h1, if_neg h1] at h
    omega
theorem crcSteps_inj (k : Nat) {a b : Nat} (ha : a < 4294967296) (hb : b < 4294967296) (h : crcSteps k a = crcSteps k b) : a = b := by
  induction k with
  | zero => exact h
  | succ k ih => exact ih (crcStep_inj (crcSteps_lt k ha) (crcSteps_lt k hb) h)
theorem xor_left_inj {a b c : Nat} (h : a ^^^ c = b ^^^ c) : a = b := by
  have := congrArg (fun z => z ^^^ c) h
  simpa only [Nat.xor_assoc, Nat.xor_self, Nat.xor_zero] using this
theorem crcByte_inj {a b x : Nat} (ha : a < 4294967296) (hb : b < 4294967296) (hx : x < 256) (h : crcByte a x = crcByte b x) : a = b :=
  xor_left_inj (crcSteps_inj 8 (xor_lt32 ha (by omega)) (xor_lt32 hb (by omega)) h)
theorem crcByte_inj_byte {c x y : Nat} (hc : c < 4294967296) (hx : x < 256) (hy : y < 256) (h : crcByte c x = crcByte c y) : x = y := by
  have := crcSteps_inj 8 (xor_lt32 hc (show x < 4294967296 by omega)) (xor_lt32 hc (show y < 4294967296 by omega)) h
  rw [Nat.xor_comm c x, Nat.xor_comm c y] at this
  exact xor_left_inj this
theorem crcRaw_inj {a b : Nat} {l : List Int} (ha : a < 4294967296) (hb : b < 4294967296) (hl : Bytes l) (h : crcRaw a l = crcRaw b l) : a = b := by
  induction l generalizing a b with
  | nil => exact h
  | cons x r ih =>
    have hx := hl x (by simp)
    have hr : Bytes r := fun y hy => hl y (by simp [hy])
    exact crcByte_inj ha hb (by omega) (ih (crcByte_lt ha (by omega)) (crcByte_lt hb (by omega)) hr h)
theorem Bytes.set {l : List Int} (hl : Bytes l) (k : Nat) {x : Int} (hx : 0 ≤ x ∧ x < 256) : Bytes (l.set k x) := by
  intro y hy
  rcases List.mem_or_eq_of_mem_set hy with h | h
  · exact hl y h
  · rw [h]; exact hx
theorem Bytes.take {l : List Int} (hl : Bytes l) (k : Nat) : Bytes (l.take k) := fun x hx => hl x (List.mem_of_mem_take hx)
theorem Bytes.drop {l : List Int} (hl : Bytes l) (k : Nat) : Bytes (l.drop k) := fun x hx => hl x (List.mem_of_mem_drop hx)
theorem Bytes.append {l m : List Int} (hl : Bytes l) (hm : Bytes m) : Bytes (l ++ m) := fun x hx => (List.mem_append.1 hx).elim (hl x) (hm x)
theorem crcOn_told {sum : Nat} {l : List Int} {k : Nat} {x : Int} (hs : sum < 4294967296) (hl : Bytes l) (hk : k < l.length) (hx : 0 ≤ x ∧ x < 256) (hne : x ≠ l[k]) : crcOn sum (l.set k x) ≠ crcOn sum l := by
  intro h
  have h1 : crcRaw (crcNot sum) (l.set k x) = crcRaw (crcNot sum) l := by
    have := congrArg crcNot h
    simpa only [crcOn, crcNot_not] using this
  have e1 : l.set k x = l.take k ++ x :: l.drop (k + 1) := List.set_eq_take_append_cons_drop ▸ by rw [if_pos hk]
  have e2 : l = l.take k ++ l[k] :: l.drop (k + 1) := by rw [← List.drop_eq_getElem_cons hk]; exact (List.take_append_drop k l).symm
  have c0 := crcRaw_lt (crcNot_lt hs) (hl.take k)
  have hlk := hl l[k] (List.getElem_mem hk)
  rw [e1] at h1
  have h2 : crcRaw (crcNot sum) l = crcRaw (crcNot sum) (l.take k ++ l[k] :: l.drop (k + 1)) := by rw [← e2]
  rw [h2, crcRaw_append, crcRaw_append] at h1
  have h3 := crcRaw_inj (crcByte_lt c0 (show x.toNat < 256 by omega)) (crcByte_lt c0 (show l[k].toNat < 256 by omega)) (hl.drop (k + 1)) h1
  have := crcByte_inj_byte c0 (by omega) (by omega) h3
  omega

/-! ### Adler-32 -/
def adl (s : Nat × Nat) (b : Int) : Nat × Nat := ((s.1 + b.toNat) % 65521, (s.2 + (s.1 + b.toNat) % 65521) % 65521)
def adlRaw (s : Nat × Nat) (l : List Int) : Nat × Nat := l.foldl adl s
def adlStart (sum : Nat) : Nat × Nat := (sum % 65536 % 65521, sum / 65536 % 65521)
def adlEnd (s : Nat × Nat) : Nat := 65536 * s.2 + s.1
def adlOn (sum : Nat) (l : List Int) : Nat := adlEnd (adlRaw (adlStart sum) l)
/-- the sums without the rest being taken -/
def adlW (s : Nat × Nat) (b : Int) : Nat × Nat := (s.1 + b.toNat, s.2 + (s.1 + b.toNat))
def adlWide (s : Nat × Nat) (l : List Int) : Nat × Nat := l.foldl adlW s
def adlMod (s : Nat × Nat) : Nat × Nat := (s.1 % 65521, s.2 % 65521)
theorem adlRaw_snoc (s : Nat × Nat) (l : List Int) (x : Int) : adlRaw s (l ++ [x]) = adl (adlRaw s l) x := by simp [adlRaw]
theorem adlRaw_append (s : Nat × Nat) (l m : List Int) : adlRaw s (l ++ m) = adlRaw (adlRaw s l) m := by simp [adlRaw]
theorem adlWide_snoc (s : Nat × Nat) (l : List Int) (x : Int) : adlWide s (l ++ [x]) = adlW (adlWide s l) x := by simp [adlWide]
theorem adl_mod (s : Nat × Nat) (x : Int) : adl (adlMod s) x = adlMod (adlW s x) := by
  unfold adl adlMod adlW
  simp only [Prod.mk.injEq]
  omega
theorem adlWide_mod (s : Nat × Nat) (l : List Int) : adlMod (adlWide s l) = adlRaw (adlMod s) l := by
  induction l generalizing s with
  | nil => rfl
  | cons x r ih =>
    show adlMod (adlWide (adlW s x) r) = adlRaw (adl (adlMod s) x) r
    rw [ih, adl_mod]
theorem adlWide_le (s : Nat × Nat) (l : List Int) (hl : Bytes l) : (adlWide s l).1 ≤ s.1 + 255 * l.length ∧ (adlWide s l).2 ≤ s.2 + (s.1 + 255 * l.length) * l.length := by
  induction l generalizing s with
  | nil => simp [adlWide]
  | cons x r ih =>
    have hx := hl x (by simp)
    have := ih (adlW s x) (fun y hy => hl y (by simp [hy]))
    have e : adlWide s (x :: r) = adlWide (adlW s x) r := rfl
    have hb : x.toNat ≤ 255 := by omega
    rw [e]
    simp only [adlW, List.length_cons] at this ⊢
    refine ⟨by omega, ?_⟩
    have h1 : (s.1 + x.toNat + 255 * r.length) * r.length ≤ (s.1 + 255 * (r.length + 1)) * r.length := Nat.mul_le_mul_right _ (by omega)
    have h2 : (s.1 + 255 * (r.length + 1)) * (r.length + 1) = (s.1 + 255 * (r.length + 1)) * r.length + (s.1 + 255 * (r.length + 1)) := Nat.mul_succ _ _
    omega
theorem adlRaw_lt {s : Nat × Nat} {l : List Int} (h : s.1 < 65521 ∧ s.2 < 65521) : (adlRaw s l).1 < 65521 ∧ (adlRaw s l).2 < 65521 := by
  induction l generalizing s with
  | nil => exact h
  | cons x r ih => exact ih ⟨Nat.mod_lt _ (by decide), Nat.mod_lt _ (by decide)⟩
theorem adlStart_lt (sum : Nat) : (adlStart sum).1 < 65521 ∧ (adlStart sum).2 < 65521 := ⟨Nat.mod_lt _ (by decide), Nat.mod_lt _ (by decide)⟩
theorem adlOn_lt (sum : Nat) (l : List Int) : adlOn sum l < 4294967296 := by
  have := adlRaw_lt (l := l) (adlStart_lt sum)
  unfold adlOn adlEnd
  omega
theorem adlStart_end {s : Nat × Nat} (h : s.1 < 65521 ∧ s.2 < 65521) : adlStart (adlEnd s) = s := by
  unfold adlStart adlEnd
  apply Prod.ext
  · show (65536 * s.2 + s.1) % 65536 % 65521 = s.1
    omega
  · show (65536 * s.2 + s.1) / 65536 % 65521 = s.2
    omega
theorem adlOn_append (sum : Nat) (l m : List Int) : adlOn sum (l ++ m) = adlOn (adlOn sum l) m := by
  unfold adlOn
  rw [adlRaw_append, adlStart_end (adlRaw_lt (adlStart_lt sum))]
def sumOf : List Int → Nat
  | [] => 0
  | x :: r => x.toNat + sumOf r
theorem adlRaw_fst (s : Nat × Nat) (l : List Int) (h : s.1 < 65521) : (adlRaw s l).1 = (s.1 + sumOf l) % 65521 := by
  induction l generalizing s with
  | nil => simp [adlRaw, sumOf]; omega
  | cons x r ih =>
    show (adlRaw (adl s x) r).1 = _
    rw [ih _ (Nat.mod_lt _ (by decide))]
    simp only [adl, sumOf]
    omega
theorem sumOf_append (l m : List Int) : sumOf (l ++ m) = sumOf l + sumOf m := by
  induction l with
  | nil => simp [sumOf]
  | cons x r ih => simp only [List.cons_append, sumOf, ih]; omega
theorem adlOn_told {sum : Nat} {l : List Int} {k : Nat} {x : Int} (hl : Bytes l) (hk : k < l.length) (hx : 0 ≤ x ∧ x < 256) (hne : x ≠ l[k]) : adlOn sum (l.set k x) ≠ adlOn sum l := by
  intro h
  have b1 := adlRaw_lt (l := l.set k x) (adlStart_lt sum)
  have b2 := adlRaw_lt (l := l) (adlStart_lt sum)
  have h1 : (adlRaw (adlStart sum) (l.set k x)).1 = (adlRaw (adlStart sum) l).1 := by
    unfold adlOn adlEnd at h
    omega
  rw [adlRaw_fst _ _ (adlStart_lt sum).1, adlRaw_fst _ _ (adlStart_lt sum).1] at h1
  have e1 : l.set k x = l.take k ++ x :: l.drop (k + 1) := List.set_eq_take_append_cons_drop ▸ by rw [if_pos hk]
  have e2 : l = l.take k ++ l[k] :: l.drop (k + 1) := by rw [← List.drop_eq_getElem_cons hk]; exact (List.take_append_drop k l).symm
  have hlk := hl l[k] (List.getElem_mem hk)
  have s1 : sumOf (l.set k x) = sumOf (l.take k) + (x.toNat + sumOf (l.drop (k + 1))) := by rw [e1, sumOf_append]; rfl
  have s2 : sumOf l = sumOf (l.take k) + (l[k].toNat + sumOf (l.drop (k + 1))) := by
    have : sumOf l = sumOf (l.take k ++ l[k] :: l.drop (k + 1)) := by rw [← e2]
    rw [this, sumOf_append]; rfl
  have := (adlStart_lt sum).1
  omega
end Go.Proofs.YtfaemhmefijaoaaDoor.sm
