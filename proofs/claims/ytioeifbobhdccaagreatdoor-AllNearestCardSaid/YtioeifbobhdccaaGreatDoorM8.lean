/- Bits put into bytes and taken out of them: lists alone. -/
import Derived.Test.YtioeifbobhdccaaGreatDoorM6
namespace Go.Proofs.YtioeifbobhdccaaGreatDoor
namespace bt
/-- a number of k bits -/
def num (f : Nat → Bool) : Nat → Nat
  | 0 => 0
  | k + 1 => num f k + (if f k then 2 ^ k else 0)
theorem num_succ (f : Nat → Bool) (k : Nat) : num f (k + 1) = num f k + (if f k then 2 ^ k else 0) := rfl
theorem num_lt (f : Nat → Bool) : ∀ k, num f k < 2 ^ k
  | 0 => by simp [num]
  | k + 1 => by
    have := num_lt f k
    rw [num, Nat.pow_succ]
    split <;> omega
theorem num_bit (f : Nat → Bool) : ∀ k p, (num f k).testBit p = (decide (p < k) && f p)
  | 0, p => by simp [num]
  | k + 1, p => by
    have h := num_lt f k
    have ih := num_bit f k
    rw [num]
    by_cases hk : f k = true
    · rw [if_pos hk, Nat.add_comm]
      rcases Nat.lt_trichotomy p k with h1 | h1 | h1
      · rw [Nat.testBit_two_pow_add_gt h1, ih, decide_eq_true h1, decide_eq_true (by omega)]
      · subst h1
        rw [Nat.testBit_two_pow_add_eq, Nat.testBit_lt_two_pow h, hk, decide_eq_true (by omega)]
        rfl
      · have h2 : 2 ^ k + num f k < 2 ^ p := by
          have : 2 ^ (k + 1) ≤ 2 ^ p := Nat.pow_le_pow_right (by decide) h1
          rw [Nat.pow_succ] at this
          omega
        rw [Nat.testBit_lt_two_pow h2, decide_eq_false (by omega)]
        rfl
    · rw [if_neg hk, Nat.add_zero, ih]
      rcases Nat.lt_trichotomy p k with h1 | h1 | h1
      · rw [decide_eq_true h1, decide_eq_true (by omega)]
      · subst h1
        simp at hk
        rw [hk]
        simp
      · rw [decide_eq_false (by omega), decide_eq_false (by omega)]
theorem num_congr {f g : Nat → Bool} : ∀ {k : Nat}, (∀ i, i < k → f i = g i) → num f k = num g k
  | 0, _ => rfl
  | k + 1, h => by rw [num, num, num_congr (fun i hi => h i (by omega)), h k (by omega)]
theorem num_testBit (v : Nat) : ∀ k, num (fun i => v.testBit i) k = v % 2 ^ k := by
  intro k
  apply Nat.eq_of_testBit_eq
  intro p
  rw [num_bit, Nat.testBit_mod_two_pow]

/-- where bit i of a stream stands in its byte -/
def place (up : Bool) (i : Nat) : Nat := if up then 7 - i % 8 else i % 8
theorem place_lt (up : Bool) (i : Nat) : place up i < 8 := by unfold place; split <;> omega
/-- the byte j of a stream -/
def byteOf (up : Bool) (L : List Bool) (j : Nat) : Nat := num (fun p => L.getD (8 * j + (if up then 7 - p else p)) false) 8
def bytes (up : Bool) (L : List Bool) : List Int := (List.range ((L.length + 7) / 8)).map fun j => ((byteOf up L j : Nat) : Int)
theorem byteOf_lt (up : Bool) (L : List Bool) (j : Nat) : byteOf up L j < 256 := num_lt _ 8
theorem bytes_length (up : Bool) (L : List Bool) : (bytes up L).length = (L.length + 7) / 8 := by simp [bytes]
theorem bytes_getD (up : Bool) (L : List Bool) {j : Nat} (h : j < (L.length + 7) / 8) : (bytes up L).getD j 0 = ((byteOf up L j : Nat) : Int) := by
  simp [bytes, List.getD_eq_getElem?_getD, h]
theorem bytes_range (up : Bool) (L : List Bool) : ∀ x ∈ bytes up L, 0 ≤ x ∧ x < 256 := by
  intro x hx
  obtain ⟨j, _, rfl⟩ := List.mem_map.1 hx
  have := byteOf_lt up L j
  omega
/-- the bit i, taken out -/
theorem bit_of (up : Bool) (L : List Bool) (i : Nat) : (byteOf up L (i / 8) >>> place up i) % 2 = if L.getD i false then 1 else 0 := by
  have h1 : ((byteOf up L (i / 8)).testBit (place up i)) = L.getD i false := by
    unfold byteOf
    rw [num_bit, decide_eq_true (place_lt up i), Bool.true_and]
    have : 8 * (i / 8) + (if up = true then 7 - place up i else place up i) = i := by
      unfold place
      split <;> omega
    rw [this]
  rw [← h1, Nat.testBit_eq_decide_div_mod_eq, Nat.shiftRight_eq_div_pow]
  have : (byteOf up L (i / 8) / 2 ^ place up i) % 2 < 2 := Nat.mod_lt _ (by decide)
  by_cases h : (byteOf up L (i / 8) / 2 ^ place up i) % 2 = 1
  · rw [h]; rfl
  · have : (byteOf up L (i / 8) / 2 ^ place up i) % 2 = 0 := by omega
    rw [this]; rfl
/-- one bit more -/
theorem byteOf_other (up : Bool) (L : List Bool) (x : Bool) {j : Nat} (h : j ≠ L.length / 8) : byteOf up (L ++ [x]) j = byteOf up L j := by
  unfold byteOf
  refine num_congr fun p hp => ?_
  have hlt : (if up = true then 7 - p else p) < 8 := by split <;> omega
  simp only [List.getD_eq_getElem?_getD]
  by_cases h1 : 8 * j + (if up = true then 7 - p else p) < L.length
  · rw [List.getElem?_append_left h1]
  · rw [List.getElem?_eq_none (l := L) (by omega), List.getElem?_eq_none]
    rw [List.length_append, List.length_singleton]
    omega
theorem byteOf_here (up : Bool) (L : List Bool) (x : Bool) : byteOf up (L ++ [x]) (L.length / 8) = byteOf up L (L.length / 8) ||| (if x then 1 else 0) <<< place up L.length := by
  apply Nat.eq_of_testBit_eq
  intro p
  rw [Nat.testBit_or]
  unfold byteOf
  rw [num_bit, num_bit]
  simp only [List.getD_eq_getElem?_getD]
  have hsh : ((if x = true then 1 else 0) <<< place up L.length).testBit p = (x && decide (p = place up L.length)) := by
    cases x with
    | true =>
      rw [if_pos rfl, Nat.one_shiftLeft, Nat.testBit_two_pow]
      simp [eq_comm]
    | false => simp
  rw [hsh]
  by_cases hp : p < 8
  · rw [decide_eq_true hp, Bool.true_and, Bool.true_and]
    by_cases hq : p = place up L.length
    · have : 8 * (L.length / 8) + (if up = true then 7 - p else p) = L.length := by
        rw [hq]
        unfold place
        split <;> omega
      rw [this, List.getElem?_concat_length, List.getElem?_eq_none (Nat.le_refl _), decide_eq_true hq]
      simp
    · rw [decide_eq_false hq, Bool.and_false, Bool.or_false]
      have hne : 8 * (L.length / 8) + (if up = true then 7 - p else p) ≠ L.length := by
        intro e
        apply hq
        unfold place
        split at e <;> (simp_all; try omega)
      by_cases h1 : 8 * (L.length / 8) + (if up = true then 7 - p else p) < L.length
      · rw [List.getElem?_append_left h1]
      · rw [List.getElem?_eq_none (l := L) (by omega), List.getElem?_eq_none]
        rw [List.length_append, List.length_singleton]
        omega
  · have hq : p ≠ place up L.length := by have := place_lt up L.length; omega
    rw [decide_eq_false hp, decide_eq_false hq]
    simp
theorem byteOf_none (up : Bool) (L : List Bool) {j : Nat} (h : L.length ≤ 8 * j) : byteOf up L j = 0 := by
  unfold byteOf
  apply Nat.eq_of_testBit_eq
  intro p
  rw [num_bit, List.getD_eq_getElem?_getD, List.getElem?_eq_none (by omega)]
  simp
theorem bytes_snoc (up : Bool) (L : List Bool) (x : Bool) :
    bytes up (L ++ [x]) = (if L.length % 8 = 0 then bytes up L ++ [0] else bytes up L).set (L.length / 8) ((byteOf up L (L.length / 8) ||| (if x then 1 else 0) <<< place up L.length : Nat) : Int) := by
  apply List.ext_getElem?
  intro j
  have hl : (bytes up (L ++ [x])).length = L.length / 8 + 1 := by rw [bytes_length, List.length_append, List.length_singleton]; omega
  have hr : (if L.length % 8 = 0 then bytes up L ++ [0] else bytes up L).length = L.length / 8 + 1 := by
    split
    · rw [List.length_append, bytes_length, List.length_singleton]; omega
    · rw [bytes_length]; omega
  by_cases hj : j < L.length / 8 + 1
  · rw [List.getElem?_set]
    have e1 : (bytes up (L ++ [x]))[j]? = some ((byteOf up (L ++ [x]) j : Nat) : Int) := by
      unfold bytes
      rw [List.getElem?_map, List.getElem?_range (by rw [List.length_append, List.length_singleton]; omega)]
      rfl
    rw [e1]
    by_cases hjl : L.length / 8 = j
    · rw [if_pos hjl, if_pos (by rw [hr]; omega), ← hjl, byteOf_here]
    · rw [if_neg hjl, byteOf_other up L x (Ne.symm hjl)]
      have hb : j < (bytes up L).length := by rw [bytes_length]; omega
      have e2 : (bytes up L)[j]? = some ((byteOf up L j : Nat) : Int) := by
        rw [bytes_length] at hb
        unfold bytes
        rw [List.getElem?_map, List.getElem?_range hb]
        rfl
      split
      · rw [List.getElem?_append_left hb, e2]
      · rw [e2]
  · rw [List.getElem?_eq_none (by omega), List.getElem?_eq_none (by rw [List.length_set]; omega)]

/-- the n lowest bits of a number, as they are written -/
def bitsOf (up : Bool) (v n : Nat) : List Bool := (List.range n).map fun i => v.testBit (if up then n - 1 - i else i)
theorem bitsOf_length (up : Bool) (v n : Nat) : (bitsOf up v n).length = n := by simp [bitsOf]
/-- what is taken -/
def valTo (up : Bool) (L : List Bool) (at' : Nat) : Nat → Nat
  | 0 => 0
  | k + 1 => if up then 2 * valTo up L at' k + (if L.getD (at' + k) false then 1 else 0) else valTo up L at' k + (if L.getD (at' + k) false then 2 ^ k else 0)
theorem valTo_lt (up : Bool) (L : List Bool) (a : Nat) : ∀ k, valTo up L a k < 2 ^ k
  | 0 => by simp [valTo]
  | k + 1 => by
    have := valTo_lt up L a k
    rw [valTo, Nat.pow_succ]
    cases up <;> simp <;> split <;> omega
theorem valTo_low (L : List Bool) (a : Nat) : ∀ k, valTo false L a k = num (fun i => L.getD (a + i) false) k
  | 0 => rfl
  | k + 1 => by rw [valTo, num, valTo_low L a k]; simp
theorem valTo_up (L : List Bool) (a v n : Nat) (h : ∀ i, i < n → L.getD (a + i) false = v.testBit (n - 1 - i)) : ∀ k, k ≤ n → valTo true L a k = (v % 2 ^ n) / 2 ^ (n - k)
  | 0, _ => by
    rw [valTo, Nat.sub_zero, Nat.div_eq_of_lt (Nat.mod_lt _ (Nat.two_pow_pos n))]
  | k + 1, hk => by
    rw [valTo, valTo_up L a v n h k (by omega), if_pos rfl, h k (by omega)]
    have e1 : n - k = (n - (k + 1)) + 1 := by omega
    obtain ⟨m, hm⟩ : ∃ m, n - (k + 1) = m := ⟨_, rfl⟩
    have e2 : n - 1 - k = m := by omega
    rw [e1, hm, e2, Nat.pow_succ, ← Nat.div_div_eq_div_mul]
    have e3 : v.testBit m = (v % 2 ^ n).testBit m := by rw [Nat.testBit_mod_two_pow, decide_eq_true (by omega), Bool.true_and]
    rw [e3, Nat.testBit_eq_decide_div_mod_eq]
    generalize v % 2 ^ n / 2 ^ m = q
    by_cases hq : q % 2 = 1
    · rw [hq]; simp; omega
    · have : q % 2 = 0 := by omega
      rw [this]; simp; omega
/-- what was written is taken -/
theorem val_bits (up : Bool) (A B : List Bool) (v n : Nat) (hv : v < 2 ^ n) : valTo up (A ++ bitsOf up v n ++ B) A.length n = v := by
  have hg : ∀ i, i < n → (A ++ bitsOf up v n ++ B).getD (A.length + i) false = v.testBit (if up then n - 1 - i else i) := by
    intro i hi
    rw [List.getD_eq_getElem?_getD, List.append_assoc, List.getElem?_append_right (by omega), Nat.add_sub_cancel_left, List.getElem?_append_left (by rw [bitsOf_length]; exact hi)]
    simp [bitsOf, hi]
  cases up with
  | true =>
    rw [valTo_up _ _ v n (fun i hi => by simpa using hg i hi) n (Nat.le_refl _), Nat.sub_self, Nat.pow_zero, Nat.div_one, Nat.mod_eq_of_lt hv]
  | false =>
    rw [valTo_low, num_congr (g := fun i => v.testBit i) (fun i hi => by simpa using hg i hi), num_testBit, Nat.mod_eq_of_lt hv]
end bt
end Go.Proofs.YtioeifbobhdccaaGreatDoor
/- The writer of bits. -/
namespace Go.Proofs.YtioeifbobhdccaaGreatDoor
open Go.RowKit Go.Sort

set_option maxRecDepth 100000 in
theorem high_any (i : Nat) (w : World) (hi : i ≤ 1125899906842624) : Calls Tryz.prog 122 #[.int .i64 (i : Nat)] w fun e w' => e = .returned (.int .u64 (bt.place true i : Nat)) ∧ w = w' := by
  have h1 : ((bt.place true i : Nat) : Int) = 7 - (i : Int) % 8 := by unfold bt.place; simp; omega
  rw [h1]
  go_enter Tryz.func122, Tryz.ntmps122
  go_wp2
  go_ret
  exact ⟨rfl, rfl⟩
set_option maxRecDepth 100000 in
theorem low_any (i : Nat) (w : World) (hi : i ≤ 1125899906842624) : Calls Tryz.prog 123 #[.int .i64 (i : Nat)] w fun e w' => e = .returned (.int .u64 (bt.place false i : Nat)) ∧ w = w' := by
  have h1 : ((bt.place false i : Nat) : Int) = (i : Int) % 8 := by unfold bt.place; simp
  rw [h1]
  go_enter Tryz.func123, Tryz.ntmps123
  go_wp2
  go_ret
  exact ⟨rfl, rfl⟩
def bt.pf (up : Bool) : FuncId := if up then 122 else 123
def bt.pv (up : Bool) : Value := .func (.func (bt.pf up)) #[] #[]
theorem order_any (up : Bool) (w : World) : Calls Tryz.prog 107 #[.bool up] w fun e w' => e = .returned (bt.pv up) ∧ w = w' := by
  cases up
  · go_enter Tryz.func107, Tryz.ntmps107
    go_wp2
    go_ret
    exact ⟨rfl, rfl⟩
  · go_enter Tryz.func107, Tryz.ntmps107
    go_wp2
    go_ret
    exact ⟨rfl, rfl⟩
/-- a writer of one's own -/
structure bt.Wr (base : Nat) (w : World) (g : Nat) (up : Bool) (L : List Bool) (v : Value) : Prop where
  lies : base ≤ g
  head : w.heap[g]? = some (.cells #[v, .int .i64 (L.length : Nat), .bool up, bt.pv up] 171 (0, 0))
  row : w.ownsRow base 5 1 v ((L.length + 7) / 8) ((bt.bytes up L).map (Value.int .u8))
theorem bt.Wr.below {base : Nat} {w w' : World} {g : Nat} {up : Bool} {L : List Bool} {v : Value} (h : bt.Wr base w g up L v) (hb : Below w.heap.size w w') : bt.Wr base w' g up L v :=
  ⟨h.lies, (hb.block _ (block_lt h.head)).trans h.head, ownsRow_below h.row hb⟩
theorem newWriter_any (up : Bool) (w : World) : Calls Tryz.prog 88 #[.bool up] w fun e w' => ∃ g, e = .returned (.pointer (some ⟨g, 0, none⟩)) ∧ bt.Wr w.heap.size w' g up [] (.slice none 0 0) ∧ Below w.heap.size w w' := by
  have HO := order_any up w
  cases up
  · change Calls Tryz.prog _ _ w fun e w' => e = .returned (.func (.func 123) #[] #[]) ∧ w = w' at HO
    have HO := Lib.hid HO
    go_enter Tryz.func88, Tryz.ntmps88
    go_wp2_with fail
    go_must (refine HO.out.mono ?_)
    rintro e w1 ⟨rfl, rfl⟩
    go_wp2_with fail
    go_ret
    exact ⟨_, rfl, ⟨Nat.le_refl _, heap_alloc_new _ _, World.ownsRow_nil _ _ _ _⟩, (Below.refl _ _).alloc (Nat.le_refl _) _⟩
  · change Calls Tryz.prog _ _ w fun e w' => e = .returned (.func (.func 122) #[] #[]) ∧ w = w' at HO
    have HO := Lib.hid HO
    go_enter Tryz.func88, Tryz.ntmps88
    go_wp2_with fail
    go_must (refine HO.out.mono ?_)
    rintro e w1 ⟨rfl, rfl⟩
    go_wp2_with fail
    go_ret
    exact ⟨_, rfl, ⟨Nat.le_refl _, heap_alloc_new _ _, World.ownsRow_nil _ _ _ _⟩, (Below.refl _ _).alloc (Nat.le_refl _) _⟩
/-- what a writer's work leaves as it was -/
structure bt.Fr (base g : Nat) (w w' : World) : Prop where
  below : Below base w w'
  others : Lib.OthersKept 5 (some g) w w'
theorem bt.Fr.refl (base g : Nat) (w : World) : bt.Fr base g w w := ⟨Below.refl _ _, Lib.OthersKept.refl _ _ _⟩
theorem bt.Fr.trans {base g : Nat} {a b c : World} (h : bt.Fr base g a b) (k : bt.Fr base g b c) : bt.Fr base g a c := ⟨h.below.trans k.below, h.others.trans k.others⟩
theorem bt.fr_grown {base g m : Nat} {w w' : World} {xs : List Value} {v : Value} (h : w.ownsRow base 5 1 v m xs) (hb : base ≤ w.heap.size) (k : w.grownBy w' v.ownBlock) : bt.Fr base g w w' := by
  refine ⟨(Below.refl _ _).grown k hb ?_, (Lib.OthersKept.refl _ _ _).grown k ?_⟩
  · rcases h.2 with ⟨rfl, _⟩ | ⟨g', cap, cur, rfl, h1, _⟩
    · intro k e
      cases e
    · intro k e
      cases e
      exact h1
  · rcases h.2 with ⟨rfl, _⟩ | ⟨g', cap, cur, rfl, _, h2, _⟩
    · intro k e
      cases e
    · intro k e
      cases e
      exact ⟨_, _, h2⟩
theorem bt.Wr.fr_grown {base g : Nat} {w w' : World} {up : Bool} {L : List Bool} {v : Value} (h : bt.Wr base w g up L v) (hb : base ≤ w.heap.size) (k : w.grownBy w' v.ownBlock) : bt.Fr base g w w' := bt.fr_grown h.row hb k
theorem bt.Fr.setCell {base g : Nat} {a w : World} (h : bt.Fr base g a w) (hg : base ≤ g) (p : Addr) (hp : p.block = g) (v : Value) : bt.Fr base g a (w.setCell p v) :=
  ⟨h.below.setCell (by rw [hp]; exact hg) v, h.others.setCell p hp v⟩

end Go.Proofs.YtioeifbobhdccaaGreatDoor
