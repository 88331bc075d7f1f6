/- Plain: which arguments an operator takes, and what becomes of a pixel by it. No program in sight. -/
import Derived.Test.YtdemndjenlhahaaTonesMath
import Derived.Test.YtdemndjenlhahaaPtMath
namespace Go.Proofs.Ytdemndjenlhahaa

/-- a colour -/
structure C4 where
  r : Int
  g : Int
  b : Int
  a : Int
def C4.ok (c : C4) : Prop := (0 ≤ c.r ∧ c.r ≤ 65535) ∧ (0 ≤ c.g ∧ c.g ≤ 65535) ∧ (0 ≤ c.b ∧ c.b ≤ 65535) ∧ (0 ≤ c.a ∧ c.a ≤ 65535)
def C4.zero : C4 := ⟨0, 0, 0, 0⟩

namespace pm
/-- an argument -/
def arg (a : List Int) (i : Nat) : Int := a.getD i 0
theorem arg0 (x : Int) (l : List Int) : arg (x :: l) 0 = x := rfl
theorem arg1 (x y : Int) (l : List Int) : arg (x :: y :: l) 1 = y := rfl
theorem arg2 (x y z : Int) (l : List Int) : arg (x :: y :: z :: l) 2 = z := rfl
theorem arg3 (x y z t : Int) (l : List Int) : arg (x :: y :: z :: t :: l) 3 = t := rfl

/-- are the arguments within their bounds? -/
def fitL : List Int → List (Int × Int) → Prop
  | [], [] => True
  | x :: xs, p :: ps => p.1 ≤ x ∧ x ≤ p.2 ∧ fitL xs ps
  | [], _ :: _ => False
  | _ :: _, [] => False
instance : ∀ (a : List Int) (l : List (Int × Int)), Decidable (fitL a l)
  | [], [] => .isTrue trivial
  | x :: xs, p :: ps =>
    have : Decidable (fitL xs ps) := instDecidableFitL xs ps
    inferInstanceAs (Decidable (p.1 ≤ x ∧ x ≤ p.2 ∧ fitL xs ps))
  | [], _ :: _ => .isFalse id
  | _ :: _, [] => .isFalse id
theorem fitL_length : ∀ {a : List Int} {l : List (Int × Int)}, fitL a l → a.length = l.length
  | [], [], _ => rfl
  | _ :: _, _ :: _, h => by simp [fitL_length h.2.2]
theorem fitL_at : ∀ {a : List Int} {l : List (Int × Int)}, fitL a l → ∀ i, i < a.length → (l.getD i (0, 0)).1 ≤ a.getD i 0 ∧ a.getD i 0 ≤ (l.getD i (0, 0)).2
  | x :: xs, p :: ps, h, 0, _ => ⟨h.1, h.2.1⟩
  | x :: xs, p :: ps, h, i + 1, hi => by
    have := fitL_at h.2.2 i (by simpa using hi)
    simpa using this
theorem fitL_of : ∀ {a : List Int} {l : List (Int × Int)}, a.length = l.length → (∀ i, i < a.length → (l.getD i (0, 0)).1 ≤ a.getD i 0 ∧ a.getD i 0 ≤ (l.getD i (0, 0)).2) → fitL a l
  | [], [], _, _ => trivial
  | [], _ :: _, h, _ => by simp at h
  | _ :: _, [], h, _ => by simp at h
  | x :: xs, p :: ps, h, hi => by
    have h0 := hi 0 (by simp)
    refine ⟨by simpa using h0.1, by simpa using h0.2, fitL_of (by simpa using h) fun i hx => ?_⟩
    have := hi (i + 1) (by simpa using hx)
    simpa using this

/-- may the arguments be? -/
def okA (k : Nat) (a : List Int) : Prop := fitL a (bnd k) ∧ ¬ (k = 3 ∧ arg a 1 ≤ arg a 0) ∧ ¬ (k = 4 ∧ arg a 1 < arg a 0)
instance (k : Nat) (a : List Int) : Decidable (okA k a) := by unfold okA; exact inferInstance
def err (k : Nat) (a : List Int) : Int := if okA k a then 0 else 190

/-- the operator of a name -/
def idx (s : ByteArray) : Option Nat := (List.range 20).find? fun k => decide (nm k = s)
def errOf (s : ByteArray) (a : List Int) : Int := match idx s with
  | some k => err k a
  | none => 8
theorem nm_ne : ∀ i, i < 20 → ∀ j, j < 20 → i ≠ j → nm i ≠ nm j := by decide +kernel
theorem idx_nm (k : Nat) (hk : k < 20) : idx (nm k) = some k := by
  have : ∀ k, k < 20 → idx (nm k) = some k := by decide +kernel
  exact this k hk
theorem idx_some {s : ByteArray} {k : Nat} (h : idx s = some k) : k < 20 ∧ s = nm k := by
  have h1 := List.find?_some h
  have h2 := List.mem_of_find?_eq_some h
  exact ⟨List.mem_range.1 h2, by simpa using (of_decide_eq_true h1).symm⟩
theorem idx_none {s : ByteArray} (h : idx s = none) (k : Nat) (hk : k < 20) : nm k ≠ s := by
  have := List.find?_eq_none.1 h k (List.mem_range.2 hk)
  simpa using this
theorem idx_none_of {s : ByteArray} (h : ∀ k, k < 20 → nm k ≠ s) : idx s = none := by
  refine List.find?_eq_none.2 fun k hk => ?_
  simpa using h k (List.mem_range.1 hk)

/-- the greatest s of at most n whose square is at most v -/
def rt (v : Int) : Nat → Int
  | 0 => 0
  | n + 1 => if ((n : Int) + 1) * ((n : Int) + 1) ≤ v then (n : Int) + 1 else rt v n
def root (v : Int) : Int := rt v 65535
theorem rt_spec (v : Int) (hv : 0 ≤ v) : ∀ n : Nat, v < ((n : Int) + 1) * ((n : Int) + 1) → 0 ≤ rt v n ∧ rt v n ≤ n ∧ rt v n * rt v n ≤ v ∧ v < (rt v n + 1) * (rt v n + 1)
  | 0, h => by simp only [rt]; omega
  | n + 1, h => by
    unfold rt
    split
    · rename_i h1
      refine ⟨by omega, by omega, h1, ?_⟩
      have : ((n + 1 : Nat) : Int) = (n : Int) + 1 := by omega
      rw [this] at h
      exact h
    · rename_i h1
      obtain ⟨a, b, c, d⟩ := rt_spec v hv n (by omega)
      exact ⟨a, by omega, c, d⟩
theorem root_spec (v : Int) (h0 : 0 ≤ v) (h1 : v < 4294967296) : 0 ≤ root v ∧ root v ≤ 65535 ∧ root v * root v ≤ v ∧ v < (root v + 1) * (root v + 1) := by
  have := rt_spec v h0 65535 (by omega)
  exact this
theorem sq_lt {s t : Int} (hs : 0 ≤ s) (h : s * s < t * t) (ht : 0 ≤ t) : s < t := by
  rcases Int.lt_or_le s t with h' | h'
  · exact h'
  · have := Int.mul_le_mul h' h' ht hs
    omega
theorem root_eq {v s : Int} (h0 : 0 ≤ v) (h1 : v < 4294967296) (hs : 0 ≤ s) (h2 : s * s ≤ v) (h3 : v < (s + 1) * (s + 1)) : s = root v := by
  obtain ⟨a, b, c, d⟩ := root_spec v h0 h1
  have e1 := sq_lt hs (Int.lt_of_le_of_lt h2 d) (by omega)
  have e2 := sq_lt a (Int.lt_of_le_of_lt c h3) (by omega)
  omega

/-- what becomes of one of r, g, b, before it is clamped: those that treat all three alike -/
def raw : Nat → List Int → Int → Int
  | 0, _, s => 65535 - s
  | 3, a, s => (s - arg a 0) * 65535 / (arg a 1 - arg a 0)
  | 4, a, s => arg a 0 + s * (arg a 1 - arg a 0) / 65535
  | 5, a, s => s + arg a 0
  | 6, a, s => s * arg a 0 / arg a 1
  | 7, a, s => tm.upV (tm.downV s (arg a 0 - 1)) (arg a 0 - 1)
  | 8, a, s => if s < arg a 0 then s else 65535 - s
  | 9, a, s => if arg a 0 = 2 then root (s * 65535) else if arg a 0 = 3 then s * s / 65535 * (s * s / 65535) / 65535 else s * s / 65535
  | _, _, s => s
def smp (k : Nat) (a : List Int) (s : Int) : Int := tm.clampTo (raw k a s) 65535
/-- .. those that take each by its own argument -/
def sep (i : Nat) (r g b : Int) : Int := match i with
  | 0 => (25756 * r + 50397 * g + 12386 * b) / 65536
  | 1 => (22872 * r + 44958 * g + 11010 * b) / 65536
  | _ => (17826 * r + 34996 * g + 8585 * b) / 65536
def raw3 : Nat → List Int → Nat → Int → C4 → Int
  | 12, _, i, _, c => sep i c.r c.g c.b
  | 13, a, i, s, _ => s + (arg a i - s) * arg a 3 / 256
  | 16, a, i, s, c => (s * c.a + arg a i * (65535 - c.a) + 32767) / 65535
  | _, _, _, s, _ => s
def smp3 (k : Nat) (a : List Int) (i : Nat) (s : Int) (c : C4) : Int := tm.clampTo (raw3 k a i s c) 65535
def dist (x y : Int) : Int := if y < x then x - y else y - x
def nearTo (a : List Int) (c : C4) : Prop := dist c.r (arg a 0) ≤ arg a 3 ∧ dist c.g (arg a 1) ≤ arg a 3 ∧ dist c.b (arg a 2) ≤ arg a 3
instance (a : List Int) (c : C4) : Decidable (nearTo a c) := by unfold nearTo; exact inferInstance
def all (k : Nat) (a : List Int) (c : C4) : C4 := ⟨smp k a c.r, smp k a c.g, smp k a c.b, c.a⟩
def all3 (k : Nat) (a : List Int) (c : C4) : C4 := ⟨smp3 k a 0 c.r c, smp3 k a 1 c.g c, smp3 k a 2 c.b c, c.a⟩
def swap (p : Int) (c : C4) : C4 := if p = 1 then ⟨c.r, c.b, c.g, c.a⟩ else if p = 2 then ⟨c.g, c.r, c.b, c.a⟩ else if p = 3 then ⟨c.g, c.b, c.r, c.a⟩ else if p = 4 then ⟨c.b, c.r, c.g, c.a⟩ else ⟨c.b, c.g, c.r, c.a⟩
def chan (p : Int) (c : C4) : Int := if p = 0 then c.r else if p = 1 then c.g else if p = 2 then c.b else c.a
/-- WHAT BECOMES OF A PIXEL -/
def res : Nat → List Int → C4 → Int → Int → Int → C4
  | 1, _, c, _, _, _ => ⟨tm.luma c.r c.g c.b, tm.luma c.r c.g c.b, tm.luma c.r c.g c.b, c.a⟩
  | 2, a, c, _, _, _ => if tm.luma c.r c.g c.b < arg a 0 then ⟨0, 0, 0, c.a⟩ else ⟨65535, 65535, 65535, c.a⟩
  | 10, a, c, _, _, _ => swap (arg a 0) c
  | 11, a, c, _, _, _ => ⟨chan (arg a 0) c, chan (arg a 0) c, chan (arg a 0) c, 65535⟩
  | 12, a, c, _, _, _ => all3 12 a c
  | 13, a, c, _, _, _ => all3 13 a c
  | 14, _, c, _, _, _ => ⟨c.r, c.g, c.b, 65535⟩
  | 15, a, c, _, _, _ => ⟨c.r, c.g, c.b, c.a * arg a 0 / 256⟩
  | 16, a, c, _, _, _ => ⟨smp3 16 a 0 c.r c, smp3 16 a 1 c.g c, smp3 16 a 2 c.b c, 65535⟩
  | 17, a, c, _, _, _ => if nearTo a c then ⟨c.r, c.g, c.b, 0⟩ else c
  | 18, a, c, x, y, _ => if (x / arg a 0 + y / arg a 0) % 2 = 1 then all 0 a c else c
  | 19, _, c, x, _, w => ⟨c.r, c.g, c.b, c.a * (w - x) / w⟩
  | k, a, c, _, _, _ => all k a c

theorem clamp_range (v : Int) : 0 ≤ tm.clampTo v 65535 ∧ tm.clampTo v 65535 ≤ 65535 := by
  unfold tm.clampTo; split
  · omega
  · split <;> omega
theorem clamp_id {v : Int} (h : 0 ≤ v ∧ v ≤ 65535) : tm.clampTo v 65535 = v := by
  unfold tm.clampTo; rw [if_neg (by omega), if_neg (by omega)]
theorem chan_range {p : Int} {c : C4} (h : c.ok) : 0 ≤ chan p c ∧ chan p c ≤ 65535 := by
  unfold chan
  obtain ⟨h1, h2, h3, h4⟩ := h
  split
  · exact h1
  · split
    · exact h2
    · split
      · exact h3
      · exact h4
theorem mul_range {x y : Int} {A B : Int} (hx : 0 ≤ x ∧ x ≤ A) (hy : 0 ≤ y ∧ y ≤ B) : 0 ≤ x * y ∧ x * y ≤ A * B :=
  ⟨Int.mul_nonneg hx.1 hy.1, Int.mul_le_mul hx.2 hy.2 hy.1 (by omega)⟩
end pm
end Go.Proofs.Ytdemndjenlhahaa
