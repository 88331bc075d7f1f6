/- Rows unfiltered, in plain words; rows that were filtered come back. -/
import Derived.Test.YtfaemhmefijaoaaDoorCkFilt
namespace Go.Proofs.YtfaemhmefijaoaaDoor
open Go.RowKit

namespace ck
def uTo (kind : Int) (bpp : Nat) (above raw : List Int) : Nat → List Int
  | 0 => []
  | x + 1 => uTo kind bpp above raw x ++ [(raw.getD x 0 + gs kind (px (uTo kind bpp above raw x) x bpp) (above.getD x 0) (px above x bpp)) % 256]
theorem uTo_succ (kind : Int) (bpp : Nat) (above raw : List Int) (x : Nat) : uTo kind bpp above raw (x + 1) = uTo kind bpp above raw x ++ [(raw.getD x 0 + gs kind (px (uTo kind bpp above raw x) x bpp) (above.getD x 0) (px above x bpp)) % 256] := rfl
theorem uTo_length (kind : Int) (bpp : Nat) (above raw : List Int) (x : Nat) : (uTo kind bpp above raw x).length = x := by
  induction x with
  | zero => rfl
  | succ x ih => rw [uTo_succ, List.length_append, ih]; rfl
def unfTo (width bpp : Nat) (l : List Int) : Nat → List Int
  | 0 => []
  | r + 1 => unfTo width bpp l r ++ uTo (l.getD (r * (width + 1)) 0) bpp (aboveOf width (unfTo width bpp l r) r) ((l.drop (r * (width + 1) + 1)).take width) width
theorem unfTo_succ (width bpp : Nat) (l : List Int) (r : Nat) : unfTo width bpp l (r + 1) = unfTo width bpp l r ++ uTo (l.getD (r * (width + 1)) 0) bpp (aboveOf width (unfTo width bpp l r) r) ((l.drop (r * (width + 1) + 1)).take width) width := rfl
theorem unfTo_length (width bpp : Nat) (l : List Int) (r : Nat) : (unfTo width bpp l r).length = r * width := by
  induction r with
  | zero => simp [unfTo]
  | succ r ih => rw [unfTo_succ, List.length_append, ih, uTo_length, Nat.succ_mul]
/-- the kinds of the first rows are known ones -/
def kindsOk (width : Nat) (l : List Int) (r : Nat) : Prop := ∀ i, i < r → l.getD (i * (width + 1)) 0 ≤ 4
instance (width : Nat) (l : List Int) (r : Nat) : Decidable (kindsOk width l r) := by unfold kindsOk; infer_instance
theorem uTo_byte (kind : Int) (bpp : Nat) (above raw : List Int) (x : Nat) : ∀ v ∈ uTo kind bpp above raw x, 0 ≤ v ∧ v < 256 := by
  induction x with
  | zero => intro v h; cases h
  | succ x ih =>
    intro v h
    rw [uTo_succ] at h
    rcases List.mem_append.1 h with h | h
    · exact ih v h
    · rw [List.mem_singleton.1 h]
      omega
theorem unfTo_byte (width bpp : Nat) (l : List Int) (r : Nat) : ∀ v ∈ unfTo width bpp l r, 0 ≤ v ∧ v < 256 := by
  induction r with
  | zero => intro v h; cases h
  | succ r ih =>
    intro v h
    rw [unfTo_succ] at h
    rcases List.mem_append.1 h with h | h
    · exact ih v h
    · exact uTo_byte _ _ _ _ _ v h

theorem filtTo_prefix (width bpp : Nat) (kind : Int) (l : List Int) (r : Nat) : ∀ m, r ≤ m → ∃ t, filtTo width bpp kind l m = filtTo width bpp kind l r ++ t := by
  intro m h
  induction m with
  | zero => obtain rfl : r = 0 := by omega
            exact ⟨[], by simp⟩
  | succ m ih =>
    by_cases e : r = m + 1
    · subst e; exact ⟨[], by simp⟩
    · obtain ⟨t, ht⟩ := ih (by omega)
      rw [filtTo_succ, ht, List.append_assoc]
      exact ⟨_, rfl⟩
theorem filtTo_row (width bpp : Nat) (kind : Int) (l : List Int) {r m : Nat} (h : r < m) :
    (filtTo width bpp kind l m).getD (r * (width + 1)) 0 = kind ∧ ((filtTo width bpp kind l m).drop (r * (width + 1) + 1)).take width = (List.range width).map (fByte kind bpp (aboveOf width l r) (rowOf width l r)) := by
  obtain ⟨t, ht⟩ := filtTo_prefix width bpp kind l (r + 1) m h
  have hl := filtTo_length width bpp kind l r
  rw [ht, filtTo_succ, List.append_assoc]
  constructor
  · rw [List.getD_eq_getElem?_getD, List.getElem?_append_right (by omega), hl, Nat.sub_self]
    rfl
  · rw [List.drop_append, List.drop_eq_nil_of_le (by omega), hl, List.nil_append, Nat.add_sub_cancel_left]
    simp [fTo]
theorem px_take (row : List Int) {x bpp : Nat} (hb : 1 ≤ bpp) : px (row.take x) x bpp = px row x bpp := by
  unfold px
  split
  · rw [List.getD_eq_getElem?_getD, List.getD_eq_getElem?_getD, List.getElem?_take, if_pos (by omega)]
  · rfl
theorem uTo_back (kind : Int) (bpp : Nat) (above raw row : List Int) (hb : 1 ≤ bpp) (hrow : ∀ v ∈ row, 0 ≤ v ∧ v < 256) (n : Nat) (hn : n ≤ row.length) (hraw : ∀ x, x < n → raw.getD x 0 = fByte kind bpp above row x) :
    uTo kind bpp above raw n = row.take n := by
  induction n with
  | zero => rfl
  | succ n ih =>
    rw [uTo_succ, ih (by omega) (fun x hx => hraw x (by omega)), px_take row hb, hraw n (by omega), List.take_succ_eq_append_getElem (by omega)]
    congr 1
    unfold fByte
    have h1 : row.getD n 0 = row[n] := by rw [List.getD_eq_getElem?_getD, List.getElem?_eq_getElem (by omega)]; rfl
    obtain ⟨h2, h3⟩ := hrow row[n] (List.getElem_mem _)
    rw [h1]
    congr 1
    omega
theorem rowOf_length {width : Nat} {l : List Int} {r m : Nat} (hl : l.length = m * width) (hr : r < m) : (rowOf width l r).length = width := by
  unfold rowOf
  rw [List.length_take, List.length_drop, hl]
  have : (r + 1) * width ≤ m * width := Nat.mul_le_mul_right _ hr
  rw [Nat.succ_mul] at this
  omega
theorem aboveOf_take {width : Nat} {l : List Int} {r : Nat} : aboveOf width (l.take (r * width)) r = aboveOf width l r := by
  unfold aboveOf
  split
  · rfl
  · obtain ⟨k, rfl⟩ : ∃ k, r = k + 1 := ⟨r - 1, by omega⟩
    unfold rowOf
    rw [Nat.add_sub_cancel, List.drop_take, List.take_take, Nat.succ_mul]
    congr 1
    omega
/-- WHAT WAS FILTERED COMES BACK -/
theorem unf_filt (width bpp : Nat) (kind : Int) (l : List Int) (m : Nat) (hb : 1 ≤ bpp) (hl : l.length = m * width) (hx : ∀ v ∈ l, 0 ≤ v ∧ v < 256) :
    ∀ r, r ≤ m → unfTo width bpp (filtTo width bpp kind l m) r = l.take (r * width) := by
  intro r
  induction r with
  | zero => intro _; simp [unfTo]
  | succ r ih =>
    intro h
    obtain ⟨h1, h2⟩ := filtTo_row width bpp kind l (r := r) (m := m) (by omega)
    have h3 := rowOf_length hl (r := r) (by omega)
    rw [unfTo_succ, ih (by omega), h1, h2, aboveOf_take, uTo_back kind bpp (aboveOf width l r) _ (rowOf width l r) hb (fun v hv => hx v (List.mem_of_mem_drop (List.mem_of_mem_take hv))) width (by omega), List.take_of_length_le (l := rowOf width l r) (i := width) (by omega)]
    · unfold rowOf
      rw [Nat.succ_mul, List.take_add]
    · intro x hx
      rw [List.getD_eq_getElem?_getD, List.getElem?_map, List.getElem?_range hx]
      rfl
theorem filt_kinds (width bpp : Nat) (kind : Int) (l : List Int) (m : Nat) (hk : kind ≤ 4) : kindsOk width (filtTo width bpp kind l m) m := by
  intro i hi
  rw [(filtTo_row width bpp kind l hi).1]
  exact hk
end ck
end Go.Proofs.YtfaemhmefijaoaaDoor
