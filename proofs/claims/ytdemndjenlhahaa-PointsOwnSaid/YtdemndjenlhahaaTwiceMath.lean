/- Plain: an operator that is applied twice. No program in sight. -/
import Derived.Test.YtdemndjenlhahaaImgMath
namespace Go.Proofs.Ytdemndjenlhahaa
theorem getD_left (l r : List Int) (i : Nat) (h : i < l.length) : (l ++ r).getD i 0 = l.getD i 0 := by
  simp only [List.getD_eq_getElem?_getD, List.getElem?_append_left h]
theorem getD_right (l r : List Int) (i : Nat) (h : l.length ≤ i) : (l ++ r).getD i 0 = r.getD (i - l.length) 0 := by
  simp only [List.getD_eq_getElem?_getD, List.getElem?_append_right h]
theorem C4.eq {c d : C4} (h1 : c.r = d.r) (h2 : c.g = d.g) (h3 : c.b = d.b) (h4 : c.a = d.a) : c = d := by
  cases c; cases d; simp_all

namespace pm
theorem pix_out (k : Nat) (a l : List Int) (w : Nat) : ∀ n j, j < n → pix (out k a l w n) j = res k a (pix l j) ((j % w : Nat) : Int) ((j / w : Nat) : Int) (w : Int)
  | n + 1, j, hj => by
    have hl := out_length k a l w n
    rcases Nat.lt_or_ge j n with h | h
    · rw [← pix_out k a l w n j h]
      unfold pix
      simp only [out]
      rw [getD_left _ _ _ (by omega), getD_left _ _ _ (by omega), getD_left _ _ _ (by omega), getD_left _ _ _ (by omega)]
    · obtain rfl : j = n := by omega
      unfold pix
      simp only [out]
      rw [getD_right _ _ _ (by omega), getD_right _ _ _ (by omega), getD_right _ _ _ (by omega), getD_right _ _ _ (by omega), hl]
      simp only [Nat.sub_self, Nat.add_sub_cancel_left, C4.list]
      exact C4.eq rfl rfl rfl rfl
theorem out_flat (k : Nat) (a l : List Int) (w : Nat) : ∀ n, out k a l w n = (List.range n).flatMap fun j => (res k a (pix l j) ((j % w : Nat) : Int) ((j / w : Nat) : Int) (w : Int)).list
  | 0 => rfl
  | n + 1 => by rw [List.range_succ, List.flatMap_append, ← out_flat k a l w n]; simp [out]
theorem out_eq {k : Nat} {a l l' : List Int} {w n : Nat} (hl : l'.length = 4 * n) (h : ∀ j, j < n → res k a (pix l j) ((j % w : Nat) : Int) ((j / w : Nat) : Int) (w : Int) = pix l' j) : out k a l w n = l' := by
  rw [out_flat, pix_list hl _ h n (Nat.le_refl _), List.take_of_length_le (by omega)]

theorem invert_twice {l : List Int} {w n : Nat} (hl : l.length = 4 * n) (hu : u16s l) : out 0 [] (out 0 [] l w n) w n = l := by
  refine out_eq hl fun j hj => ?_
  rw [pix_out _ _ _ _ _ _ hj]
  obtain ⟨h1, h2, h3, h4⟩ := hu.pix j
  have key : ∀ s : Int, 0 ≤ s ∧ s ≤ 65535 → smp 0 [] (smp 0 [] s) = s := fun s hs => by
    have e1 : smp 0 [] s = 65535 - s := clamp_id (by show 0 ≤ 65535 - s ∧ 65535 - s ≤ 65535; omega)
    rw [e1]
    show tm.clampTo (65535 - (65535 - s)) 65535 = s
    rw [clamp_id (by omega)]
    omega
  exact C4.eq (key _ h1) (key _ h2) (key _ h3) rfl
theorem grey_twice {l : List Int} {w n : Nat} : out 1 [] (out 1 [] l w n) w n = out 1 [] l w n := by
  refine out_eq (out_length _ _ _ _ _) fun j hj => ?_
  rw [pix_out _ _ _ _ _ _ hj]
  show C4.mk _ _ _ _ = C4.mk _ _ _ _
  simp only [res, tm.luma_grey]
theorem thr_twice {l : List Int} {w n : Nat} {t : Int} (h0 : 0 < t) (h1 : t ≤ 65535) : out 2 [t] (out 2 [t] l w n) w n = out 2 [t] l w n := by
  refine out_eq (out_length _ _ _ _ _) fun j hj => ?_
  rw [pix_out _ _ _ _ _ _ hj]
  generalize pix l j = c
  have key : ∀ c : C4, res 2 [t] c ((j % w : Nat) : Int) ((j / w : Nat) : Int) (w : Int) = if tm.luma c.r c.g c.b < t then ⟨0, 0, 0, c.a⟩ else ⟨65535, 65535, 65535, c.a⟩ := fun c => rfl
  rw [key c]
  by_cases h : tm.luma c.r c.g c.b < t
  · rw [if_pos h, key]
    have e : tm.luma 0 0 0 = 0 := by decide
    simp only [e]
    rw [if_pos h0]
  · rw [if_neg h, key]
    have e : tm.luma 65535 65535 65535 = 65535 := by decide
    simp only [e]
    rw [if_neg (by omega)]
theorem post_twice {l : List Int} {w n : Nat} {k : Int} (h0 : 2 ≤ k) (h1 : k ≤ 256) (hu : u16s l) : out 7 [k] (out 7 [k] l w n) w n = out 7 [k] l w n := by
  refine out_eq (out_length _ _ _ _ _) fun j hj => ?_
  rw [pix_out _ _ _ _ _ _ hj]
  obtain ⟨h2, h3, h4, h5⟩ := hu.pix j
  have key : ∀ s : Int, 0 ≤ s ∧ s ≤ 65535 → smp 7 [k] (smp 7 [k] s) = smp 7 [k] s := fun s hs => by
    have e : ∀ s, smp 7 [k] s = tm.upV (tm.downV s (k - 1)) (k - 1) := fun s => clamp_id (tm.upV_range _ _)
    rw [e (smp 7 [k] s), e s, tm.down_up]
    have hm := mul_range (x := s) (y := k - 1) ⟨hs.1, hs.2⟩ (B := k - 1) ⟨by omega, by omega⟩
    have hd : tm.downV s (k - 1) = (s * (k - 1) + 32767) / 65535 := if_neg fun h => by unfold tm.downBad at h; omega
    unfold tm.upBad
    rw [hd]
    omega
  exact C4.eq (key _ h2) (key _ h3) (key _ h4) rfl
end pm
end Go.Proofs.Ytdemndjenlhahaa
