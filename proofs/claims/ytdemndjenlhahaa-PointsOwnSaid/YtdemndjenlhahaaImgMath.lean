/- Plain: images as lists of samples. No program in sight. -/
import Derived.Test.YtdemndjenlhahaaPtMath2
namespace Go.Proofs.Ytdemndjenlhahaa

/-- may an image of this size hold so many samples? -/
def imgGood (W H : Int) (n : Nat) : Prop := 1 ≤ W ∧ 1 ≤ H ∧ W ≤ 4096 ∧ H ≤ 4096 ∧ W * H ≤ 65536 ∧ (n : Int) = 4 * W * H
instance (W H : Int) (n : Nat) : Decidable (imgGood W H n) := by unfold imgGood; exact inferInstance
def goodB (W H : Int) (n : Nat) : Bool := decide (imgGood W H n)
def fitsB (W H : Int) : Bool := decide (1 ≤ W ∧ 1 ≤ H ∧ W ≤ 4096 ∧ H ≤ 4096 ∧ W * H ≤ 65536)
theorem goodB_true {W H : Int} {n : Nat} (h : imgGood W H n) : goodB W H n = true := decide_eq_true h
theorem goodB_false {W H : Int} {n : Nat} (h : ¬ imgGood W H n) : goodB W H n = false := decide_eq_false h
theorem fitsB_true {W H : Int} (h : 1 ≤ W ∧ 1 ≤ H ∧ W ≤ 4096 ∧ H ≤ 4096 ∧ W * H ≤ 65536) : fitsB W H = true := decide_eq_true h
theorem fitsB_false {W H : Int} (h : ¬ (1 ≤ W ∧ 1 ≤ H ∧ W ≤ 4096 ∧ H ≤ 4096 ∧ W * H ≤ 65536)) : fitsB W H = false := decide_eq_false h
theorem sides_mul {W H : Int} (h1 : 1 ≤ W) (h2 : 1 ≤ H) (h3 : W ≤ 4096) (h4 : H ≤ 4096) : 1 ≤ W * H ∧ W * H ≤ 16777216 ∧ 4 * W * H = 4 * (W * H) := by
  refine ⟨?_, ?_, Int.mul_assoc _ _ _⟩
  · have := Int.mul_le_mul h1 h2 (by omega) (by omega); omega
  · have := Int.mul_le_mul h3 h4 (by omega) (by omega); omega

/-- the k-th pixel of a list of samples -/
def pix (l : List Int) (k : Nat) : C4 := ⟨l.getD (4 * k) 0, l.getD (4 * k + 1) 0, l.getD (4 * k + 2) 0, l.getD (4 * k + 3) 0⟩
def C4.list (c : C4) : List Int := [c.r, c.g, c.b, c.a]
def u16s (l : List Int) : Prop := ∀ x ∈ l, 0 ≤ x ∧ x ≤ 65535
theorem u16s.at {l : List Int} (h : u16s l) (i : Nat) : 0 ≤ l.getD i 0 ∧ l.getD i 0 ≤ 65535 := by
  rcases Nat.lt_or_ge i l.length with hi | hi
  · rw [List.getD_eq_getElem?_getD, List.getElem?_eq_getElem hi]
    exact h _ (List.getElem_mem hi)
  · rw [List.getD_eq_getElem?_getD, List.getElem?_eq_none hi]
    simp
theorem u16s.pix {l : List Int} (h : u16s l) (k : Nat) : (pix l k).ok := ⟨h.at _, h.at _, h.at _, h.at _⟩

namespace pm
/-- what becomes of the pixels 0 .. n - 1 of an image of width w -/
def out (k : Nat) (a : List Int) (l : List Int) (w : Nat) : Nat → List Int
  | 0 => []
  | n + 1 => out k a l w n ++ (res k a (pix l n) ((n % w : Nat) : Int) ((n / w : Nat) : Int) (w : Int)).list
theorem out_length (k : Nat) (a l : List Int) (w : Nat) : ∀ n, (out k a l w n).length = 4 * n
  | 0 => rfl
  | n + 1 => by simp [out, out_length k a l w n, C4.list]; omega
/-- what Apply answers: its number, and an image -/
def applyErr (op : ByteArray) (a : List Int) (W H : Int) (n : Nat) : Int := if errOf op a = 0 then (if goodB W H n = true then 0 else 6) else errOf op a
def applyOut (op : ByteArray) (a : List Int) (W : Int) (l : List Int) : List Int := match idx op with
  | some k => out k a l W.toNat (l.length / 4)
  | none => []
end pm

namespace pm
/-- .. of those that have come, the j-th standing at the place j -/
def outs (k : Nat) (a : List Int) (l : List Int) (w : Nat) : Nat → List Nat → List Int
  | _, [] => []
  | j, x :: xs => (res k a (pix l x) ((j : Int) % (w : Int)) ((j : Int) / (w : Int)) (w : Int)).list ++ outs k a l w (j + 1) xs
theorem outs_snoc (k : Nat) (a l : List Int) (w : Nat) (x : Nat) : ∀ (j : Nat) (xs : List Nat), outs k a l w j (xs ++ [x]) = outs k a l w j xs ++ (res k a (pix l x) (((j + xs.length : Nat) : Int) % (w : Int)) (((j + xs.length : Nat) : Int) / (w : Int)) (w : Int)).list
  | j, [] => by simp [outs]
  | j, y :: ys => by
    simp only [List.cons_append, outs, outs_snoc k a l w x (j + 1) ys, List.append_assoc, List.length_cons]
    rw [show j + 1 + ys.length = j + (ys.length + 1) from by omega]
theorem outs_range (k : Nat) (a l : List Int) (w : Nat) : ∀ n, outs k a l w 0 (List.range n) = out k a l w n
  | 0 => rfl
  | n + 1 => by
    rw [List.range_succ, outs_snoc, outs_range k a l w n]
    simp [out]
theorem outs_length (k : Nat) (a l : List Int) (w : Nat) : ∀ (xs : List Nat) (j : Nat), (outs k a l w j xs).length = 4 * xs.length
  | [], _ => rfl
  | x :: xs, j => by simp [outs, outs_length k a l w xs, C4.list]; omega

theorem luma_range {c : C4} (h : c.ok) : 0 ≤ tm.luma c.r c.g c.b ∧ tm.luma c.r c.g c.b ≤ 65535 := by
  obtain ⟨h1, h2, h3, h4⟩ := h
  unfold tm.luma
  omega
theorem res_ok {k : Nat} {a : List Int} {c : C4} {x y w : Int} (hk : k < 20) (ha : okA k a) (hc : c.ok) (hp : k < 18 ∨ (0 ≤ x ∧ x < w)) : (res k a c x y w).ok := by
  have hl := luma_range hc
  have hch : ∀ p, 0 ≤ chan p c ∧ chan p c ≤ 65535 := fun p => chan_range hc
  have hall : ∀ k, (all k a c).ok := fun k => ⟨clamp_range _, clamp_range _, clamp_range _, hc.2.2.2⟩
  have hall3 : ∀ k, (all3 k a c).ok := fun k => ⟨clamp_range _, clamp_range _, clamp_range _, hc.2.2.2⟩
  match k, hk with
  | 0, _ => exact hall 0
  | 1, _ => exact ⟨hl, hl, hl, hc.2.2.2⟩
  | 2, _ =>
    show C4.ok (if tm.luma c.r c.g c.b < arg a 0 then ⟨0, 0, 0, c.a⟩ else ⟨65535, 65535, 65535, c.a⟩)
    split
    · exact ⟨by simp, by simp, by simp, hc.2.2.2⟩
    · exact ⟨by simp, by simp, by simp, hc.2.2.2⟩
  | 3, _ => exact hall 3
  | 4, _ => exact hall 4
  | 5, _ => exact hall 5
  | 6, _ => exact hall 6
  | 7, _ => exact hall 7
  | 8, _ => exact hall 8
  | 9, _ => exact hall 9
  | 10, _ =>
    obtain ⟨h1, h2, h3, h4⟩ := hc
    show C4.ok (swap (arg a 0) c)
    unfold swap
    split
    · exact ⟨h1, h3, h2, h4⟩
    · split
      · exact ⟨h2, h1, h3, h4⟩
      · split
        · exact ⟨h2, h3, h1, h4⟩
        · split
          · exact ⟨h3, h1, h2, h4⟩
          · exact ⟨h3, h2, h1, h4⟩
  | 11, _ => exact ⟨hch _, hch _, hch _, by show (0 : Int) ≤ 65535 ∧ (65535 : Int) ≤ 65535; omega⟩
  | 12, _ => exact hall3 12
  | 13, _ => exact hall3 13
  | 14, _ => exact ⟨hc.1, hc.2.1, hc.2.2.1, by show (0 : Int) ≤ 65535 ∧ (65535 : Int) ≤ 65535; omega⟩
  | 15, _ =>
    have h1 := fitL_at ha.1 0 (by have := fitL_length ha.1; rw [this]; decide)
    have h2 : 0 ≤ arg a 0 ∧ arg a 0 ≤ 256 := h1
    have h3 := hc.2.2.2
    have h4 := mul_range (x := c.a) (y := arg a 0) ⟨h3.1, h3.2⟩ ⟨h2.1, h2.2⟩
    exact ⟨hc.1, hc.2.1, hc.2.2.1, by show 0 ≤ c.a * arg a 0 / 256 ∧ c.a * arg a 0 / 256 ≤ 65535; omega⟩
  | 16, _ => exact ⟨clamp_range _, clamp_range _, clamp_range _, by show (0 : Int) ≤ 65535 ∧ (65535 : Int) ≤ 65535; omega⟩
  | 17, _ =>
    show C4.ok (if nearTo a c then ⟨c.r, c.g, c.b, 0⟩ else c)
    split
    · exact ⟨hc.1, hc.2.1, hc.2.2.1, by simp⟩
    · exact hc
  | 18, _ =>
    show C4.ok (if (x / arg a 0 + y / arg a 0) % 2 = 1 then all 0 a c else c)
    split
    · exact hall 0
    · exact hc
  | 19, _ =>
    rcases hp with hp | hp
    · omega
    have h3 := hc.2.2.2
    have h4 : 0 ≤ c.a * (w - x) := Int.mul_nonneg h3.1 (by omega)
    have h5 : c.a * (w - x) ≤ c.a * w := Int.mul_le_mul_of_nonneg_left (by omega) h3.1
    refine ⟨hc.1, hc.2.1, hc.2.2.1, ?_⟩
    show 0 ≤ c.a * (w - x) / w ∧ c.a * (w - x) / w ≤ 65535
    refine ⟨Int.ediv_nonneg h4 (by omega), ?_⟩
    have h6 : c.a * (w - x) / w ≤ c.a * w / w := Int.ediv_le_ediv (by omega) h5
    rw [Int.mul_ediv_cancel _ (by omega : w ≠ 0)] at h6
    omega
  | k + 20, h => exact absurd h (by omega)
theorem u16s_list {c : C4} (h : c.ok) : u16s c.list := by
  intro x hx
  simp only [C4.list, List.mem_cons, List.not_mem_nil, or_false] at hx
  rcases hx with rfl | rfl | rfl | rfl
  · exact h.1
  · exact h.2.1
  · exact h.2.2.1
  · exact h.2.2.2
theorem out_u16s {k : Nat} {a l : List Int} {w : Nat} (hk : k < 20) (ha : okA k a) (hl : u16s l) (hw : 0 < w) : ∀ n, u16s (out k a l w n)
  | 0 => by intro x hx; cases hx
  | n + 1 => by
    intro x hx
    rcases List.mem_append.1 hx with h | h
    · exact out_u16s hk ha hl hw n x h
    · exact u16s_list (res_ok hk ha (hl.pix n) (.inr ⟨by omega, by have := Nat.mod_lt n hw; omega⟩)) x h
end pm

/-- the pixels of a list, one by one -/
theorem pix_list {l : List Int} {n : Nat} (h : l.length = 4 * n) (f : Nat → C4) (hf : ∀ k, k < n → f k = pix l k) : ∀ m, m ≤ n → (List.range m).flatMap (fun k => (f k).list) = l.take (4 * m)
  | 0, _ => by simp
  | m + 1, hm => by
    rw [List.range_succ, List.flatMap_append, pix_list h f hf m (by omega)]
    apply List.ext_getElem?
    intro i
    simp only [List.flatMap_cons, List.flatMap_nil, List.append_nil, hf m (by omega), pix, C4.list]
    rw [List.getElem?_append, List.getElem?_take, List.getElem?_take, List.length_take]
    by_cases h1 : i < 4 * m
    · rw [if_pos (by omega), if_pos h1, if_pos (by omega)]
    · rw [if_neg (by omega)]
      have e : min (4 * m) l.length = 4 * m := by omega
      rw [e]
      by_cases h2 : i < 4 * (m + 1)
      · rw [if_pos h2]
        obtain ⟨j, rfl⟩ : ∃ j, i = 4 * m + j := ⟨i - 4 * m, by omega⟩
        have hj : j < 4 := by omega
        have g : ∀ x, x < l.length → l[x]? = some (l.getD x 0) := fun x hx => by rw [List.getD_eq_getElem?_getD, List.getElem?_eq_getElem hx]; rfl
        rw [g _ (by omega), Nat.add_sub_cancel_left]
        match j, hj with
        | 0, _ => simp
        | 1, _ => simp
        | 2, _ => simp
        | 3, _ => simp
      · rw [if_neg h2, List.getElem?_eq_none (by simp; omega)]
end Go.Proofs.Ytdemndjenlhahaa
