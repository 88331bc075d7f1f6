/- The passes have each place of the picture once: plain mathematics. -/
import Derived.Test.YtfaemhmefijaoaaDoorCkPass
namespace Go.Proofs.YtfaemhmefijaoaaDoor
namespace ck

theorem passCells_get (w h : Int) : ∀ (l : List Ps) (i : Nat) (p : Ps), l[i]? = some p → ∀ j, j < 6 → (passCells w h l)[i * 6 + j]? = (p.cells w h)[j]?
  | [], i, p, hp, _, _ => by cases hp
  | q :: l, 0, p, hp, j, hj => by
    obtain rfl : q = p := by simpa using hp
    have e : passCells w h (q :: l) = q.cells w h ++ passCells w h l := rfl
    rw [e, Nat.zero_mul, Nat.zero_add, List.getElem?_append_left (by simpa [Ps.cells] using hj)]
  | q :: l, i + 1, p, hp, j, hj => by
    have e : passCells w h (q :: l) = q.cells w h ++ passCells w h l := rfl
    rw [e, List.getElem?_append_right (by simp [Ps.cells]; omega)]
    have hl : (q.cells w h).length = 6 := rfl
    rw [hl, show (i + 1) * 6 + j - 6 = i * 6 + j by omega]
    exact passCells_get w h l i p (by simpa using hp) j hj
/-- is the place (row r, column q) one of the first of pass p: the rows before y, and of row y the first x -/
def before (p : Ps) (y x r q : Nat) : Prop := q % p.DX = p.X ∧ r % p.DY = p.Y ∧ (r / p.DY < y ∨ (r / p.DY = y ∧ q / p.DX < x))
instance (p : Ps) (y x r q : Nat) : Decidable (before p y x r q) := by unfold before; infer_instance
def hits (p : Ps) (r q : Nat) : Prop := q % p.DX = p.X ∧ r % p.DY = p.Y
instance (p : Ps) (r q : Nat) : Decidable (hits p r q) := by unfold hits; infer_instance
/-- how often the place has been counted by whole passes -/
def count (l : List Ps) (r q : Nat) : Nat := (l.filter fun p => decide (hits p r q)).length
theorem count_snoc (l : List Ps) (p : Ps) (r q : Nat) : count (l ++ [p]) r q = count l r q + if hits p r q then 1 else 0 := by
  unfold count
  rw [List.filter_append, List.length_append]
  by_cases h : hits p r q <;> simp [h]
theorem mem_tab {w h : Int} {p : Ps} (hp : p ∈ passes w h) : p ∈ passTab ∧ p.has w h := by
  unfold passes passesTo at hp
  rw [List.mem_filter] at hp
  exact ⟨List.mem_of_mem_take hp.1, of_decide_eq_true hp.2⟩
/-- each place is had once -/
theorem count_one {w h r q : Nat} (hr : r < h) (hq : q < w) : count (passes w h) r q = 1 := by
  have h1 : count (passes w h) r q = count passTab r q := by
    unfold count passes passesTo
    rw [show passTab.take 7 = passTab from rfl, List.filter_filter]
    congr 1
    refine List.filter_congr fun p hp => ?_
    by_cases hh : hits p r q
    · have : p.has w h := by
        unfold hits at hh
        unfold Ps.has
        have h2 := Nat.mod_le q p.DX
        have h3 := Nat.mod_le r p.DY
        omega
      simp [hh, this]
    · simp [hh]
  rw [h1]
  have hq8 : q % 8 < 8 := Nat.mod_lt _ (by decide)
  have hr8 : r % 8 < 8 := Nat.mod_lt _ (by decide)
  have e1 : ∀ p ∈ passTab, hits p r q ↔ hits p (r % 8) (q % 8) := by
    intro p hp
    simp only [passTab, List.mem_cons, List.not_mem_nil, or_false] at hp
    rcases hp with rfl | rfl | rfl | rfl | rfl | rfl | rfl <;> simp only [hits] <;> omega
  have h2 : count passTab r q = count passTab (r % 8) (q % 8) := by
    unfold count
    congr 1
    exact List.filter_congr fun p hp => by simp [e1 p hp]
  rw [h2]
  generalize r % 8 = a at *
  generalize q % 8 = b at *
  have : ∀ a : Fin 8, ∀ b : Fin 8, count passTab a.val b.val = 1 := by decide +kernel
  exact this ⟨a, hr8⟩ ⟨b, hq8⟩
/-- one place more -/
theorem before_succ {p : Ps} (hp : p ∈ passTab) (y x r q : Nat) : (if before p y (x + 1) r q then 1 else 0 : Nat) = (if before p y x r q then 1 else 0) + if r = p.Y + y * p.DY ∧ q = p.X + x * p.DX then 1 else 0 := by
  have h1 : before p y (x + 1) r q ↔ before p y x r q ∨ (r = p.Y + y * p.DY ∧ q = p.X + x * p.DX) := by
    simp only [passTab, List.mem_cons, List.not_mem_nil, or_false] at hp
    rcases hp with rfl | rfl | rfl | rfl | rfl | rfl | rfl <;> simp only [before] <;> omega
  have h2 : ¬ (before p y x r q ∧ (r = p.Y + y * p.DY ∧ q = p.X + x * p.DX)) := by
    simp only [passTab, List.mem_cons, List.not_mem_nil, or_false] at hp
    rcases hp with rfl | rfl | rfl | rfl | rfl | rfl | rfl <;> simp only [before] <;> omega
  by_cases a : before p y x r q
  · rw [if_pos (h1.2 (.inl a)), if_pos a, if_neg (fun b => h2 ⟨a, b⟩)]
  · by_cases b : r = p.Y + y * p.DY ∧ q = p.X + x * p.DX
    · rw [if_pos (h1.2 (.inr b)), if_neg a, if_pos b]
    · rw [if_neg (fun h => (h1.1 h).elim a b), if_neg a, if_neg b]
theorem before_row {p : Ps} (hp : p ∈ passTab) {w y x r q : Nat} (hq : q < w) (hx : (w : Int) ≤ p.X + x * p.DX) : before p y x r q ↔ before p (y + 1) 0 r q := by
  simp only [passTab, List.mem_cons, List.not_mem_nil, or_false] at hp
  rcases hp with rfl | rfl | rfl | rfl | rfl | rfl | rfl <;> simp only [before] <;> simp only at hx <;> omega
theorem before_all {p : Ps} (hp : p ∈ passTab) {h y r q : Nat} (hr : r < h) (hy : (h : Int) ≤ p.Y + y * p.DY) : before p y 0 r q ↔ hits p r q := by
  simp only [passTab, List.mem_cons, List.not_mem_nil, or_false] at hp
  rcases hp with rfl | rfl | rfl | rfl | rfl | rfl | rfl <;> simp only [before, hits] <;> simp only at hy <;> omega
theorem before_none (p : Ps) (r q : Nat) : ¬ before p 0 0 r q := by
  rintro ⟨_, _, h | ⟨_, h⟩⟩
  · exact Nat.not_lt_zero _ h
  · exact Nat.not_lt_zero _ h
/-- the span: so many fit -/
theorem span_nat {s X D : Nat} (h : X < s) (hD : 1 ≤ D) : ∃ n : Nat, span s X D = n ∧ (∀ k, k < n → X + k * D < s) ∧ (s : Int) ≤ X + n * D ∧ n ≤ s := by
  refine ⟨(s - X - 1) / D + 1, ?_, ?_, ?_, ?_⟩
  · unfold span
    rw [show (s : Int) - X - 1 = ((s - X - 1 : Nat) : Int) by omega, ← Int.natCast_ediv]
    push_cast
    rfl
  · intro k hk
    have h1 : k ≤ (s - X - 1) / D := by omega
    have h2 := (Nat.le_div_iff_mul_le (by omega)).1 h1
    omega
  · have h1 := Nat.lt_div_mul_add (a := s - X - 1) (b := D) (by omega)
    have h2 : ((s - X - 1) / D + 1) * D = (s - X - 1) / D * D + D := Nat.succ_mul _ _
    have h3 : (((s - X - 1) / D + 1 : Nat) : Int) * (D : Int) = ((((s - X - 1) / D + 1) * D : Nat) : Int) := by push_cast; rfl
    rw [h3]
    omega
  · have := Nat.div_le_self (s - X - 1) D
    omega
end ck
end Go.Proofs.YtfaemhmefijaoaaDoor
