/- Texts of this claim, joined. -/
set_option maxRecDepth 100000
set_option maxHeartbeats 12800000
namespace Go.Proofs.YthpckmcgbmfmcaaGreatDoor
namespace bt
def num (f : Nat -> Bool) : Nat -> Nat
 | 0 => 0
 | k + 1 => num f k + (if f k then 2 ^ k else 0)
theorem num_lt (f : Nat -> Bool) : ∀ k, num f k < 2 ^ k
 | 0 => by simp [num]
 | k + 1 => by
  have := num_lt f k;rw [num, Nat.pow_succ];split <;> omega
theorem num_bit (f : Nat -> Bool) : ∀ k p, (num f k).testBit p = (decide (p < k) && f p)
 | 0, p => by simp [num]
 | k + 1, p => by
  have h := num_lt f k;have ih := num_bit f k;rw [num];by_cases hk : f k = true
  ·rw [if_pos hk, Nat.add_comm]
   rcases Nat.lt_trichotomy p k with h1 | h1 | h1
   ·rw [Nat.testBit_two_pow_add_gt h1, ih, decide_eq_true h1, decide_eq_true (by omega)]
   ·subst h1
    rw [Nat.testBit_two_pow_add_eq, Nat.testBit_lt_two_pow h, hk, decide_eq_true (by omega)];rfl
   ·have h2 : 2 ^ k + num f k < 2 ^ p := by
     have : 2 ^ (k + 1) <= 2 ^ p := Nat.pow_le_pow_right (by decide) h1;rw [Nat.pow_succ] at this;omega
    rw [Nat.testBit_lt_two_pow h2, decide_eq_false (by omega)];rfl
  ·rw [if_neg hk, Nat.add_zero, ih]
   rcases Nat.lt_trichotomy p k with h1 | h1 | h1
   ·rw [decide_eq_true h1, decide_eq_true (by omega)]
   ·subst h1
    simp at hk;rw [hk];simp
   ·rw [decide_eq_false (by omega), decide_eq_false (by omega)]
theorem num_congr {f g : Nat -> Bool} : ∀ {k : Nat}, (∀ i, i < k -> f i = g i) -> num f k = num g k
 | 0, _ => rfl
 | k + 1, h => by rw [num, num, num_congr (fun i hi => h i (by omega)), h k (by omega)]
theorem num_testBit (v : Nat) : ∀ k, num (fun i => v.testBit i) k = v % 2 ^ k := by
 intro k;apply Nat.eq_of_testBit_eq
 intro p;rw [num_bit, Nat.testBit_mod_two_pow]
def place (up : Bool) (i : Nat) : Nat := if up then 7 - i % 8 else i % 8
theorem place_lt (up : Bool) (i : Nat) : place up i < 8 := by unfold place; split <;> omega
def byteOf (up : Bool) (L : List Bool) (j : Nat) : Nat := num (fun p => L.getD (8 * j + (if up then 7 - p else p)) false) 8
def bytes (up : Bool) (L : List Bool) : List Int := (List.range ((L.length + 7) / 8)).map fun j => ((byteOf up L j : Nat) : Int)
theorem byteOf_lt (up : Bool) (L : List Bool) (j : Nat) : byteOf up L j < 256 := num_lt _ 8
theorem bytes_length (up : Bool) (L : List Bool) : (bytes up L).length = (L.length + 7) / 8 := by simp [bytes]
theorem bytes_getD (up : Bool) (L : List Bool) {j : Nat} (h : j < (L.length + 7) / 8) : (bytes up L).getD j 0 = ((byteOf up L j : Nat) : Int) := by
 simp [bytes, List.getD_eq_getElem?_getD, h]
theorem bytes_range (up : Bool) (L : List Bool) : ∀ x ∈ bytes up L, 0 <= x /\ x < 256 := by
 intro x hx;obtain ⟨j, _, rfl⟩ := List.mem_map.1 hx;have := byteOf_lt up L j;omega
theorem bit_of (up : Bool) (L : List Bool) (i : Nat) : (byteOf up L (i / 8) >>> place up i) % 2 = if L.getD i false then 1 else 0 := by
 have h1 : ((byteOf up L (i / 8)).testBit (place up i)) = L.getD i false := by
  unfold byteOf;rw [num_bit, decide_eq_true (place_lt up i), Bool.true_and];have : 8 * (i / 8) + (if up = true then 7 - place up i else place up i) = i := by
   unfold place;split <;> omega
  rw [this]
 rw [<- h1, Nat.testBit_eq_decide_div_mod_eq, Nat.shiftRight_eq_div_pow];have : (byteOf up L (i / 8) / 2 ^ place up i) % 2 < 2 := Nat.mod_lt _ (by decide);by_cases h : (byteOf up L (i / 8) / 2 ^ place up i) % 2 = 1
 ·rw [h]; rfl
 ·have : (byteOf up L (i / 8) / 2 ^ place up i) % 2 = 0 := by omega
  rw [this]; rfl
theorem byteOf_other (up : Bool) (L : List Bool) (x : Bool) {j : Nat} (h : j ≠ L.length / 8) : byteOf up (L ++ [x]) j = byteOf up L j := by
 unfold byteOf;refine num_congr fun p hp => ?_
 have hlt : (if up = true then 7 - p else p) < 8 := by split <;> omega
 simp only [List.getD_eq_getElem?_getD];by_cases h1 : 8 * j + (if up = true then 7 - p else p) < L.length
 ·rw [List.getElem?_append_left h1]
 ·rw [List.getElem?_eq_none (l := L) (by omega), List.getElem?_eq_none]
  rw [List.length_append, List.length_singleton];omega
theorem byteOf_here (up : Bool) (L : List Bool) (x : Bool) : byteOf up (L ++ [x]) (L.length / 8) = byteOf up L (L.length / 8) ||| (if x then 1 else 0) <<< place up L.length := by
 apply Nat.eq_of_testBit_eq
 intro p;rw [Nat.testBit_or];unfold byteOf;rw [num_bit, num_bit];simp only [List.getD_eq_getElem?_getD];have hsh : ((if x = true then 1 else 0) <<< place up L.length).testBit p = (x && decide (p = place up L.length)) := by
  cases x with
  | true =>
   rw [if_pos rfl, Nat.one_shiftLeft, Nat.testBit_two_pow];simp [eq_comm]
  | false => simp
 rw [hsh];by_cases hp : p < 8
 ·rw [decide_eq_true hp, Bool.true_and, Bool.true_and]
  by_cases hq : p = place up L.length
  ·have : 8 * (L.length / 8) + (if up = true then 7 - p else p) = L.length := by
    rw [hq];unfold place;split <;> omega
   rw [this, List.getElem?_concat_length, List.getElem?_eq_none (Nat.le_refl _), decide_eq_true hq];simp
  ·rw [decide_eq_false hq, Bool.and_false, Bool.or_false]
   have hne : 8 * (L.length / 8) + (if up = true then 7 - p else p) ≠ L.length := by
    intro e;apply hq
    unfold place;split at e <;> (simp_all; try omega)
   by_cases h1 : 8 * (L.length / 8) + (if up = true then 7 - p else p) < L.length
   ·rw [List.getElem?_append_left h1]
   ·rw [List.getElem?_eq_none (l := L) (by omega), List.getElem?_eq_none]
    rw [List.length_append, List.length_singleton];omega
 ·have hq : p ≠ place up L.length := by have := place_lt up L.length; omega
  rw [decide_eq_false hp, decide_eq_false hq];simp
theorem byteOf_none (up : Bool) (L : List Bool) {j : Nat} (h : L.length <= 8 * j) : byteOf up L j = 0 := by
 unfold byteOf;apply Nat.eq_of_testBit_eq
 intro p;rw [num_bit, List.getD_eq_getElem?_getD, List.getElem?_eq_none (by omega)];simp
theorem bytes_snoc (up : Bool) (L : List Bool) (x : Bool) :
  bytes up (L ++ [x]) = (if L.length % 8 = 0 then bytes up L ++ [0] else bytes up L).set (L.length / 8) ((byteOf up L (L.length / 8) ||| (if x then 1 else 0) <<< place up L.length : Nat) : Int) := by
 apply List.ext_getElem?
 intro j;have hl : (bytes up (L ++ [x])).length = L.length / 8 + 1 := by rw [bytes_length, List.length_append, List.length_singleton]; omega
 have hr : (if L.length % 8 = 0 then bytes up L ++ [0] else bytes up L).length = L.length / 8 + 1 := by
  split
  ·rw [List.length_append, bytes_length, List.length_singleton]; omega
  ·rw [bytes_length]; omega
 by_cases hj : j < L.length / 8 + 1
 ·rw [List.getElem?_set]
  have e1 : (bytes up (L ++ [x]))[j]? = some ((byteOf up (L ++ [x]) j : Nat) : Int) := by
   unfold bytes;rw [List.getElem?_map, List.getElem?_range (by rw [List.length_append, List.length_singleton]; omega)];rfl
  rw [e1];by_cases hjl : L.length / 8 = j
  ·rw [if_pos hjl, if_pos (by rw [hr]; omega), <- hjl, byteOf_here]
  ·rw [if_neg hjl, byteOf_other up L x (Ne.symm hjl)]
   have hb : j < (bytes up L).length := (by rw [bytes_length]; omega);have e2 : (bytes up L)[j]? = some ((byteOf up L j : Nat) : Int) := by
    rw [bytes_length] at hb;unfold bytes;rw [List.getElem?_map, List.getElem?_range hb];rfl
   split
   ·rw [List.getElem?_append_left hb, e2]
   ·rw [e2]
 ·rw [List.getElem?_eq_none (by omega), List.getElem?_eq_none (by rw [List.length_set]; omega)]
def bitsOf (up : Bool) (v n : Nat) : List Bool := (List.range n).map fun i => v.testBit (if up then n - 1 - i else i)
theorem bitsOf_length (up : Bool) (v n : Nat) : (bitsOf up v n).length = n := by simp [bitsOf]
def valTo (up : Bool) (L : List Bool) (at' : Nat) : Nat -> Nat
 | 0 => 0
 | k + 1 => if up then 2 * valTo up L at' k + (if L.getD (at' + k) false then 1 else 0) else valTo up L at' k + (if L.getD (at' + k) false then 2 ^ k else 0)
theorem valTo_lt (up : Bool) (L : List Bool) (a : Nat) : ∀ k, valTo up L a k < 2 ^ k
 | 0 => by simp [valTo]
 | k + 1 => by
  have := valTo_lt up L a k;rw [valTo, Nat.pow_succ];cases up <;> simp <;> split <;> omega
theorem valTo_low (L : List Bool) (a : Nat) : ∀ k, valTo false L a k = num (fun i => L.getD (a + i) false) k
 | 0 => rfl
 | k + 1 => by rw [valTo, num, valTo_low L a k]; simp
theorem valTo_up (L : List Bool) (a v n : Nat) (h : ∀ i, i < n -> L.getD (a + i) false = v.testBit (n - 1 - i)) : ∀ k, k <= n -> valTo true L a k = (v % 2 ^ n) / 2 ^ (n - k)
 | 0, _ => by
  rw [valTo, Nat.sub_zero, Nat.div_eq_of_lt (Nat.mod_lt _ (Nat.two_pow_pos n))]
 | k + 1, hk => by
  rw [valTo, valTo_up L a v n h k (by omega), if_pos rfl, h k (by omega)];have e1 : n - k = (n - (k + 1)) + 1 := by omega
  obtain ⟨m, hm⟩ : ∃ m, n - (k + 1) = m := ⟨_, rfl⟩;have e2 : n - 1 - k = m := by omega
  rw [e1, hm, e2, Nat.pow_succ, <- Nat.div_div_eq_div_mul];have e3 : v.testBit m = (v % 2 ^ n).testBit m := by rw [Nat.testBit_mod_two_pow, decide_eq_true (by omega), Bool.true_and]
  rw [e3, Nat.testBit_eq_decide_div_mod_eq];generalize v % 2 ^ n / 2 ^ m = q;by_cases hq : q % 2 = 1
  ·rw [hq]; simp; omega
  ·have : q % 2 = 0 := by omega
   rw [this]; simp; omega
theorem val_bits (up : Bool) (A B : List Bool) (v n : Nat) (hv : v < 2 ^ n) : valTo up (A ++ bitsOf up v n ++ B) A.length n = v := by
 have hg : ∀ i, i < n -> (A ++ bitsOf up v n ++ B).getD (A.length + i) false = v.testBit (if up then n - 1 - i else i) := by
  intro i hi;rw [List.getD_eq_getElem?_getD, List.append_assoc, List.getElem?_append_right (by omega), Nat.add_sub_cancel_left, List.getElem?_append_left (by rw [bitsOf_length]; exact hi)];simp [bitsOf, hi]
 cases up with
 | true =>
  rw [valTo_up _ _ v n (fun i hi => by simpa using hg i hi) n (Nat.le_refl _), Nat.sub_self, Nat.pow_zero, Nat.div_one, Nat.mod_eq_of_lt hv]
 | false =>
  rw [valTo_low, num_congr (g := fun i => v.testBit i) (fun i hi => by simpa using hg i hi), num_testBit, Nat.mod_eq_of_lt hv]
end bt
namespace pf
def part (l : Nat) : Nat := if l = 0 then 0 else 2 ^ (16 - l)
def kraft (ls : List Nat) : Nat := (ls.map part).sum
structure Ok (ls : List Nat) : Prop where
 le : ∀ l ∈ ls, l <= 16
 room : kraft ls <= 65536
def first (ls : List Nat) : Nat -> Nat
 | 0 => 0
 | 1 => 0
 | n + 2 => 2 * (first ls (n + 1) + ls.count (n + 1))
theorem first_succ (ls : List Nat) {n : Nat} (h : 1 <= n) : first ls (n + 1) = 2 * (first ls n + ls.count n) := by
 obtain ⟨m, rfl⟩ : ∃ m, n = m + 1 := ⟨n - 1, by omega⟩;rfl
def rank (ls : List Nat) (s : Nat) : Nat := (ls.take s).count (ls.getD s 0)
def code (ls : List Nat) (s : Nat) : Nat := first ls (ls.getD s 0) + rank ls s
def below (n l : Nat) : Nat := if 0 < l /\ l < n then 2 ^ (16 - l) else 0
theorem sum_below (ls : List Nat) {n : Nat} (h : 1 <= n) : (ls.map (below (n + 1))).sum = (ls.map (below n)).sum + ls.count n * 2 ^ (16 - n) := by
 induction ls with
 | nil => simp
 | cons a r ih =>
  simp only [List.map_cons, List.sum_cons, List.count_cons, ih];by_cases e : a = n
  ·subst e
   have h1 : below (a + 1) a = 2 ^ (16 - a) := (by unfold below; rw [if_pos (by omega)]);have h2 : below a a = 0 := (by unfold below; rw [if_neg (by omega)]);simp [h1, h2, Nat.add_mul];omega
  ·have h1 : below (n + 1) a = below n a := by
    unfold below;by_cases h2 : 0 < a /\ a < n
    ·rw [if_pos h2, if_pos (by omega)]
    ·rw [if_neg h2, if_neg (by omega)]
   simp [h1, e];omega
theorem first_kraft (ls : List Nat) : ∀ n, 1 <= n -> n <= 16 -> first ls n * 2 ^ (16 - n) = (ls.map (below n)).sum
 | 0, h, _ => by omega
 | 1, _, _ => by
  have : ∀ ls : List Nat, (ls.map (below 1)).sum = 0 := by
   intro ls
   induction ls with
   | nil => rfl
   | cons a r ih =>
    have : below 1 a = 0 := (by unfold below; rw [if_neg (by omega)]);simp [this, ih]
  rw [this];simp [first]
 | n + 2, _, h => by
  have ih := first_kraft ls (n + 1) (by omega) (by omega);rw [sum_below ls (by omega), <- ih];have e : 16 - (n + 1) = (16 - (n + 2)) + 1 := by omega
  rw [e, Nat.pow_succ];show 2 * (first ls (n + 1) + ls.count (n + 1)) * 2 ^ (16 - (n + 2)) = _;rw [Nat.mul_comm 2, Nat.mul_assoc, Nat.add_mul, Nat.mul_comm 2]
theorem below_le (n : Nat) (ls : List Nat) : (ls.map (below n)).sum <= kraft ls := by
 induction ls with
 | nil => simp [kraft]
 | cons a r ih =>
  have : below n a <= part a := by
   unfold below part;split
   ·rw [if_neg (by omega)]
    exact Nat.le_refl _
   ·exact Nat.zero_le _
  simp only [kraft, List.map_cons, List.sum_cons] at ih ⊢;omega
theorem fits {ls : List Nat} (h : Ok ls) {n : Nat} (h1 : 1 <= n) (h2 : n <= 16) : first ls n + ls.count n <= 2 ^ n := by
 have e := first_kraft ls n h1 h2;have s := sum_below ls h1;have b := below_le (n + 1) ls;rw [s, <- e, <- Nat.add_mul] at b;have h3 : 2 ^ n * 2 ^ (16 - n) = 65536 := by
  rw [<- Nat.pow_add, Nat.add_sub_cancel' h2]
 have h4 := Nat.le_trans b h.room;rw [<- h3] at h4;exact Nat.le_of_mul_le_mul_right h4 (Nat.two_pow_pos _)
theorem rank_lt {ls : List Nat} {s : Nat} (h : s < ls.length) : rank ls s < ls.count (ls.getD s 0) := by
 unfold rank;have e : ls = ls.take s ++ ls.getD s 0 :: ls.drop (s + 1) := by
  rw [List.getD_eq_getElem?_getD, List.getElem?_eq_getElem h];simp
 have : ls.count (ls.getD s 0) = (ls.take s ++ ls.getD s 0 :: ls.drop (s + 1)).count (ls.getD s 0) := by rw [<- e]
 rw [this, List.count_append, List.count_cons_self];omega
theorem code_range {ls : List Nat} {s : Nat} (h : s < ls.length) : first ls (ls.getD s 0) <= code ls s /\ code ls s < first ls (ls.getD s 0) + ls.count (ls.getD s 0) := by
 have := rank_lt h;unfold code;omega
theorem code_lt {ls : List Nat} (hk : Ok ls) {s : Nat} (h : s < ls.length) (h1 : 1 <= ls.getD s 0) : code ls s < 2 ^ ls.getD s 0 := by
 have h2 : ls.getD s 0 <= 16 := hk.le _ (by
  rw [List.getD_eq_getElem?_getD, List.getElem?_eq_getElem h];exact List.getElem_mem h)
 have := fits hk h1 h2;have := (code_range h).2;omega
theorem first_grow (ls : List Nat) {n : Nat} (h : 1 <= n) : ∀ k, (first ls n + ls.count n) * 2 ^ (k + 1) <= first ls (n + 1 + k)
 | 0 => by rw [Nat.add_zero, first_succ ls h]; omega
 | k + 1 => by
  have ih := first_grow ls h k;rw [show n + 1 + (k + 1) = (n + 1 + k) + 1 by omega, first_succ ls (by omega), Nat.pow_succ, <- Nat.mul_assoc];omega
theorem first_over (ls : List Nat) {n m : Nat} (h : 1 <= n) (hm : n < m) : (first ls n + ls.count n) * 2 ^ (m - n) <= first ls m := by
 have := first_grow ls h (m - n - 1)
 rwa [show m - n - 1 + 1 = m - n by omega, show n + 1 + (m - n - 1) = m by omega] at this
theorem early {ls : List Nat} {s n : Nat} (h : s < ls.length) (h1 : 1 <= n) (h2 : n < ls.getD s 0) : first ls n + ls.count n <= code ls s / 2 ^ (ls.getD s 0 - n) := by
 rw [Nat.le_div_iff_mul_le (Nat.two_pow_pos _)];exact Nat.le_trans (first_over ls h1 h2) (code_range h).1
def deep (ls : List Nat) : Nat := ls.foldl max 0
theorem foldl_max (ls : List Nat) : ∀ a, a <= ls.foldl max a /\ (∀ l ∈ ls, l <= ls.foldl max a) /\ (ls.foldl max a = a \/ ls.foldl max a ∈ ls) := by
 induction ls with
 | nil => intro a; simp
 | cons x r ih =>
  intro a;obtain ⟨h1, h2, h3⟩ := ih (max a x);simp only [List.foldl_cons];refine ⟨by omega, fun l hl => ?_, ?_⟩
  ·rcases List.mem_cons.1 hl with rfl | hl
   ·omega
   ·exact h2 l hl
  ·rcases h3 with h | h
   ·rw [h]
    rcases Nat.le_total a x with h' | h'
    ·right
     rw [Nat.max_eq_right h'];exact List.mem_cons_self
    ·left
     exact Nat.max_eq_left h'
   ·exact .inr (List.mem_cons_of_mem _ h)
theorem le_deep {ls : List Nat} {l : Nat} (h : l ∈ ls) : l <= deep ls := (foldl_max ls 0).2.1 l h
theorem deep_mem {ls : List Nat} (h : deep ls ≠ 0) : deep ls ∈ ls := (foldl_max ls 0).2.2.resolve_left h
theorem getD_mem {ls : List Nat} {s : Nat} (h : s < ls.length) : ls.getD s 0 ∈ ls := by
 rw [List.getD_eq_getElem?_getD, List.getElem?_eq_getElem h];exact List.getElem_mem h
def last (ls : List Nat) : Nat := first ls (deep ls) + ls.count (deep ls) - 1
theorem notAbove {ls : List Nat} {s n : Nat} (h : s < ls.length) (h1 : 1 <= n) (h2 : n < ls.getD s 0) : code ls s / 2 ^ (ls.getD s 0 - n) <= last ls / 2 ^ (deep ls - n) := by
 have hd := le_deep (getD_mem h);have hm : deep ls ∈ ls := deep_mem (by omega);have hc : 0 < ls.count (deep ls) := List.count_pos_iff.2 hm;have hr := (code_range h).2;rw [Nat.le_div_iff_mul_le (Nat.two_pow_pos _)];have key : code ls s * 2 ^ (deep ls - ls.getD s 0) <= last ls := by
  rcases Nat.lt_or_ge (ls.getD s 0) (deep ls) with hlt | hge
  ·have := first_over ls (by omega : 1 <= ls.getD s 0) hlt
   have h3 : (code ls s) * 2 ^ (deep ls - ls.getD s 0) <= (first ls (ls.getD s 0) + ls.count (ls.getD s 0)) * 2 ^ (deep ls - ls.getD s 0) := Nat.mul_le_mul_right _ (by omega);unfold last;omega
  ·have e : ls.getD s 0 = deep ls := by omega
   rw [e, Nat.sub_self, Nat.pow_zero, Nat.mul_one];rw [e] at hr;unfold last;omega
 have e2 : 2 ^ (deep ls - n) = 2 ^ (ls.getD s 0 - n) * 2 ^ (deep ls - ls.getD s 0) := by
  rw [<- Nat.pow_add];congr 1
  omega
 rw [e2, <- Nat.mul_assoc];exact Nat.le_trans (Nat.mul_le_mul_right _ (Nat.div_mul_le_self _ _)) key
def idx (ls : List Nat) (n : Nat) : List Nat := (List.range ls.length).filter fun s => ls.getD s 0 == n
theorem idx_snoc (ls : List Nat) (a n : Nat) : idx (ls ++ [a]) n = idx ls n ++ if a = n then [ls.length] else [] := by
 unfold idx;rw [List.length_append, List.length_cons, List.length_nil, List.range_succ, List.filter_append];congr 1
 ·refine List.filter_congr fun s hs => ?_
  have := List.mem_range.1 hs;simp [List.getD_eq_getElem?_getD, List.getElem?_append_left this]
 ·by_cases e : a = n
  ·simp [List.getD_eq_getElem?_getD, e]
  ·simp [List.getD_eq_getElem?_getD, e]
theorem idx_length (ls : List Nat) (n : Nat) : (idx ls n).length = ls.count n := by
 have e : (List.range ls.length).map (fun s => ls.getD s 0) = ls := by
  apply List.ext_getElem
  ·simp
  ·intro i h1 h2
   simp [List.getD_eq_getElem?_getD, List.getElem?_eq_getElem h2]
 unfold idx;rw [<- List.countP_eq_length_filter]
 conv => rhs; rw [<- e]
 rw [List.count, List.countP_map];rfl
theorem idx_take (ls : List Nat) (n m : Nat) (h : m <= ls.length) : idx ls n = idx (ls.take m) n ++ ((List.range ls.length).drop m).filter (fun s => ls.getD s 0 == n) := by
 unfold idx;rw [List.length_take, Nat.min_eq_left h];have e : List.range ls.length = List.range m ++ (List.range ls.length).drop m := by
  have h1 : (List.range ls.length).take m = List.range m := by rw [List.take_range, Nat.min_eq_left h]
  rw [<- h1, List.take_append_drop]
 conv => lhs; rw [e]
 rw [List.filter_append];congr 1
 refine List.filter_congr fun s hs => ?_
 have := List.mem_range.1 hs;simp [List.getD_eq_getElem?_getD, this]
theorem idx_at {ls : List Nat} {s : Nat} (h : s < ls.length) : (idx ls (ls.getD s 0))[rank ls s]? = some s := by
 have e := idx_take ls (ls.getD s 0) s (by omega);have hl : (idx (ls.take s) (ls.getD s 0)).length = rank ls s := by rw [idx_length]; rfl
 rw [e, List.getElem?_append_right (by omega), hl, Nat.sub_self];have hd : (List.range ls.length).drop s = s :: (List.range ls.length).drop (s + 1) := by
  rw [List.drop_eq_getElem_cons (by simpa using h)];simp
 rw [hd, List.filter_cons_of_pos (by simp)];rfl
def table (ls : List Nat) (n : Nat) : List Nat := (List.range n).flatMap fun k => idx ls (k + 1)
theorem table_succ (ls : List Nat) (n : Nat) : table ls (n + 1) = table ls n ++ idx ls (n + 1) := by simp [table, List.range_succ]
theorem table_at {ls : List Nat} {n m k : Nat} (h1 : n < m) (hk : k < ls.count (n + 1)) : (table ls m)[(table ls n).length + k]? = (idx ls (n + 1))[k]? := by
 induction m with
 | zero => omega
 | succ m ih =>
  rw [table_succ];rcases Nat.lt_or_ge n m with h | h
  ·rw [List.getElem?_append_left, ih h]
   have hp : (table ls (n + 1)).length <= (table ls m).length := by
    clear ih;have : ∀ j, (table ls (n + 1)).length <= (table ls (n + 1 + j)).length := by
     intro j
     induction j with
     | zero => exact Nat.le_refl _
     | succ j ih => rw [show n + 1 + (j + 1) = (n + 1 + j) + 1 by omega, table_succ ls (n + 1 + j), List.length_append]; omega
    have := this (m - (n + 1))
    rwa [Nat.add_sub_cancel' (by omega)] at this
   rw [table_succ, List.length_append, idx_length] at hp;omega
  ·obtain rfl : n = m := by omega
   rw [List.getElem?_append_right (by omega), Nat.add_sub_cancel_left]
theorem table_code {ls : List Nat} (hk : Ok ls) {s : Nat} (h : s < ls.length) (h1 : 1 <= ls.getD s 0) : (table ls 16)[(table ls (ls.getD s 0 - 1)).length + rank ls s]? = some s := by
 have h2 := hk.le _ (getD_mem h);have hr := rank_lt h;have e : ls.getD s 0 - 1 + 1 = ls.getD s 0 := by omega
 rw [table_at (n := ls.getD s 0 - 1) (by omega) (by rw [e]; exact hr), e];exact idx_at h
end pf
namespace df
structure Piece where
 n : Nat
 back : Nat
 b : Int
inductive From (l : List Int) : Nat -> List Piece -> Nat -> Prop
 | nil {i : Nat} : From l i [] i
 | lit {i j : Nat} {ps : List Piece} : i < l.length -> From l (i + 1) ps j -> From l i (⟨0, 0, l.getD i 0⟩ :: ps) j
 | mat {i j n k : Nat} {ps : List Piece} : 3 <= n -> n <= 258 -> 1 <= k -> k <= i -> k <= 32768 -> i + n <= l.length -> (∀ m, m < n -> l.getD (i + m) 0 = l.getD (i - k + m) 0) -> From l (i + n) ps j -> From l i (⟨n, k, 0⟩ :: ps) j
theorem From.trans {l : List Int} {i j k : Nat} {ps qs : List Piece} (h : From l i ps j) (h2 : From l j qs k) : From l i (ps ++ qs) k := by
 induction h with
 | nil => exact h2
 | lit h _ ih => exact .lit h (ih h2)
 | mat a b c d e f g _ ih => exact .mat a b c d e f g (ih h2)
theorem take_more {l : List Int} {i : Nat} (h : i < l.length) : l.take (i + 1) = l.take i ++ [l.getD i 0] := by
 rw [List.take_add_one, List.getD_eq_getElem?_getD, List.getElem?_eq_getElem h];rfl
theorem copy_one {l : List Int} {i k m : Nat} (h1 : 1 <= k) (h2 : k <= i) (h : i + m < l.length) (he : l.getD (i + m) 0 = l.getD (i - k + m) 0) : (l.take (i + m)).getD ((l.take (i + m)).length - k) 0 = l.getD (i + m) 0 := by
 rw [List.length_take, Nat.min_eq_left (by omega), he, List.getD_eq_getElem?_getD, List.getElem?_take_of_lt (by omega), show i + m - k = i - k + m by omega, <- List.getD_eq_getElem?_getD]
def symM (v size : Nat) : Nat := if v < 2 * size then 0 else Nat.log2 (v / size)
def symS (v size : Nat) : Nat := symM v size * size + v / 2 ^ symM v size
def symX (v size : Nat) : Nat := v % 2 ^ symM v size
def grM (k size : Nat) : Nat := if k < 2 * size then 0 else k / size - 1
def grB (k size frm : Nat) : Nat := if k < 2 * size then frm + k else frm + (size + k % size) * 2 ^ (k / size - 1)
theorem symM_range {v size : Nat} (hs : 0 < size) (h : 2 * size <= v) : 1 <= symM v size /\ size * 2 ^ symM v size <= v /\ v < size * 2 ^ (symM v size + 1) := by
 have hq : 2 <= v / size := (Nat.le_div_iff_mul_le hs).2 h;unfold symM;rw [if_neg (by omega)];have h1 := Nat.log2_self_le (n := v / size) (by omega);have h2 := Nat.lt_log2_self (n := v / size);refine ⟨?_, ?_, ?_⟩
 ·rcases Nat.eq_zero_or_pos (v / size).log2 with e | e
  ·rw [e] at h2
   simp at h2;omega
  ·exact e
 ·rw [Nat.mul_comm]
  exact (Nat.le_div_iff_mul_le hs).1 h1
 ·rw [Nat.mul_comm]
  exact (Nat.div_lt_iff_lt_mul hs).1 h2
theorem symM_least {v size m : Nat} (hs : 0 < size) (h : 2 * size <= v) (h1 : m < symM v size) : 2 * size * 2 ^ m <= v := by
 obtain ⟨_, h2, _⟩ := symM_range hs h;have : size * 2 ^ (m + 1) <= size * 2 ^ symM v size := Nat.mul_le_mul_left _ (Nat.pow_le_pow_right (by decide) h1);rw [Nat.pow_succ, <- Nat.mul_assoc, Nat.mul_comm _ 2, <- Nat.mul_assoc] at this;omega
theorem symM_stop {v size : Nat} (hs : 0 < size) : v < 2 * size * 2 ^ symM v size := by
 rcases Nat.lt_or_ge v (2 * size) with h | h
 ·unfold symM
  rw [if_pos h]
  simpa using h
 ·obtain ⟨_, _, h3⟩ := symM_range hs h
  rw [Nat.pow_succ, <- Nat.mul_assoc, Nat.mul_comm _ 2, <- Nat.mul_assoc] at h3;exact h3
theorem symM_small {v size : Nat} (h : v < 2 * size) : symM v size = 0 := by unfold symM; rw [if_pos h]
theorem symM_le {v size K : Nat} (hs : 0 < size) (h : v < size * 2 ^ (K + 1)) : symM v size <= K := by
 rcases Nat.lt_or_ge v (2 * size) with h1 | h1
 ·rw [symM_small h1]
  exact Nat.zero_le _
 ·obtain ⟨_, h3, _⟩ := symM_range hs h1
  have h4 := Nat.lt_of_mul_lt_mul_left (Nat.lt_of_le_of_lt h3 h);have := (Nat.pow_lt_pow_iff_right (a := 2) (by decide)).1 h4;omega
theorem symQ {v size : Nat} (hs : 0 < size) (h : 2 * size <= v) : size <= v / 2 ^ symM v size /\ v / 2 ^ symM v size < 2 * size := by
 obtain ⟨_, h2, h3⟩ := symM_range hs h;refine ⟨(Nat.le_div_iff_mul_le (Nat.two_pow_pos _)).2 h2, (Nat.div_lt_iff_lt_mul (Nat.two_pow_pos _)).2 ?_⟩;have := symM_stop (v := v) hs;exact this
theorem symS_le {v size K : Nat} (hs : 0 < size) (h : v < size * 2 ^ (K + 1)) : symS v size < (K + 2) * size := by
 have hm := symM_le hs h;unfold symS;rcases Nat.lt_or_ge v (2 * size) with h1 | h1
 ·rw [symM_small h1]
  simp only [Nat.zero_mul, Nat.pow_zero, Nat.div_one, Nat.zero_add];have : 2 * size <= (K + 2) * size := Nat.mul_le_mul_right _ (by omega);omega
 ·have := (symQ hs h1).2
  have h2 : symM v size * size <= K * size := Nat.mul_le_mul_right _ hm;rw [Nat.add_mul];omega
theorem gr_sym (v : Nat) {size : Nat} (frm : Nat) (hs : 0 < size) : grM (symS v size) size = symM v size /\ grB (symS v size) size frm + symX v size = frm + v := by
 rcases Nat.lt_or_ge v (2 * size) with h | h
 ·have e := symM_small h
  unfold grM grB symS symX;rw [e];simp only [Nat.zero_mul, Nat.pow_zero, Nat.div_one, Nat.zero_add, Nat.mod_one];rw [if_pos h, if_pos h];exact ⟨rfl, rfl⟩
 ·obtain ⟨h1, _, _⟩ := symM_range hs h
  obtain ⟨q1, q2⟩ := symQ hs h;have hdm := Nat.div_add_mod v (2 ^ symM v size);unfold grM grB symS symX;obtain ⟨m, hm⟩ : ∃ m, symM v size = m := ⟨_, rfl⟩;rw [hm] at h1 q1 q2 hdm ⊢;obtain ⟨k, hk⟩ : ∃ k, v / 2 ^ m = k := ⟨_, rfl⟩;rw [hk] at q1 q2 hdm ⊢;have hge : 2 * size <= m * size + k := by
   have : 1 * size <= m * size := Nat.mul_le_mul_right _ h1;omega
  have hk1 : k / size = 1 := by
   rw [Nat.div_eq_iff hs];omega
  have hdv : (m * size + k) / size = m + 1 := by rw [Nat.add_comm, Nat.add_mul_div_right _ _ hs, hk1, Nat.add_comm]
  have hmd : (m * size + k) % size = k - size := by
   rw [Nat.add_comm, Nat.add_mul_mod_self_right, Nat.mod_eq_sub_mod q1, Nat.mod_eq_of_lt (by omega)]
  rw [if_neg (by omega), if_neg (by omega), hdv, hmd, Nat.add_sub_cancel];refine ⟨rfl, ?_⟩;rw [show size + (k - size) = k by omega, Nat.mul_comm k];omega
def lenS (n : Nat) : Nat := if n = 258 then 285 else 257 + symS (n - 3) 4
def lenM (n : Nat) : Nat := if n = 258 then 0 else symM (n - 3) 4
def lenX (n : Nat) : Nat := if n = 258 then 0 else symX (n - 3) 4
def disS (k : Nat) : Nat := symS (k - 1) 2
def disM (k : Nat) : Nat := symM (k - 1) 2
def disX (k : Nat) : Nat := symX (k - 1) 2
theorem symX_lt (v size : Nat) : symX v size < 2 ^ symM v size := Nat.mod_lt _ (Nat.two_pow_pos _)
theorem lenX_lt (n : Nat) : lenX n < 2 ^ lenM n := by
 unfold lenX lenM;split
 ·decide
 ·exact symX_lt _ _
theorem disX_lt (k : Nat) : disX k < 2 ^ disM k := symX_lt _ _
theorem lenS_range {n : Nat} (h : n <= 258) : 257 <= lenS n /\ lenS n <= 285 /\ (n ≠ 258 -> lenS n <= 284) /\ lenM n <= 5 := by
 unfold lenS lenM;split
 ·omega
 ·have h1 := symS_le (v := n - 3) (size := 4) (K := 5) (by decide) (by omega)
  have h2 := symM_le (v := n - 3) (size := 4) (K := 5) (by decide) (by omega);omega
theorem disS_range {k : Nat} (h : k <= 32768) (h1 : 1 <= k) : disS k <= 29 /\ disM k <= 13 := by
 have h1 := symS_le (v := k - 1) (size := 2) (K := 13) (by decide) (by omega);have h2 := symM_le (v := k - 1) (size := 2) (K := 13) (by decide) (by omega);unfold disS disM;omega
def sb (ls : List Nat) (s : Nat) : List Bool := bt.bitsOf true (pf.code ls s) (ls.getD s 0)
def pieceBits (L D : List Nat) (p : Piece) : List Bool :=
 if p.n = 0 then sb L p.b.toNat else sb L (lenS p.n) ++ bt.bitsOf false (lenX p.n) (lenM p.n) ++ sb D (disS p.back) ++ bt.bitsOf false (disX p.back) (disM p.back)
def bodyBits (L D : List Nat) (ps : List Piece) : List Bool := ps.flatMap (pieceBits L D) ++ sb L 256
def Covers (L D : List Nat) (p : Piece) : Prop := if p.n = 0 then 1 <= L.getD p.b.toNat 0 else 1 <= L.getD (lenS p.n) 0 /\ 1 <= D.getD (disS p.back) 0
end df
end Go.Proofs.YthpckmcgbmfmcaaGreatDoor
