/- Names of four letters: strings.Trim at a set of letters, and what of chunk stands on it. -/
import Derived.Test.YtfaemhmefijaoaaDoorCkBase
namespace Go.Proofs.YtfaemhmefijaoaaDoor
open Go.RowKit

namespace ck
/-- the set of bytes, as the library lays it (not to be looked into by the walk) -/
def setRow (l : List UInt8) : Array Value := Array.ofFn (n := 256) fun i => .bool (l.any fun x => x.toNat == i.val)
theorem setRow_zero : setRow [] = Array.replicate 256 (.bool false) := by
  apply Array.ext
  · simp [setRow]
  · intro i h1 h2; simp [setRow]
theorem setRow_size (l : List UInt8) : (setRow l).size = 256 := by simp [setRow]
theorem setRow_sizes (a b : List UInt8) : (setRow a).size = (setRow b).size := by rw [setRow_size, setRow_size]
theorem setRow_get (l : List UInt8) (i : Nat) (h : i < 256) : (setRow l)[i]? = some (.bool (l.any fun x => x.toNat == i)) := by
  simp [setRow, h]
theorem setRow_one (l : List UInt8) : (setRow l).all (·.oneCell') = true := by
  rw [Array.all_eq_true]
  intro i h
  simp only [setRow, Array.getElem_ofFn]
  rfl
theorem setRow_set (l : List UInt8) (x : UInt8) : (setRow l).setIfInBounds x.toNat (.bool true) = setRow (l ++ [x]) := by
  apply Array.ext
  · simp [setRow]
  · intro i h1 h2
    have hi : i < 256 := by simpa [setRow] using h2
    rw [Array.getElem_setIfInBounds (by simpa [setRow] using hi)]
    simp only [setRow, Array.getElem_ofFn, List.any_append, List.any_cons, List.any_nil, Bool.or_false]
    by_cases e : x.toNat = i
    · subst e; simp
    · have : (x.toNat == i) = false := by simpa using e
      rw [if_neg e, this, Bool.or_false]
theorem take_snoc (s : ByteArray) (k : Nat) (h : k < s.size) : s.data.toList.take (k + 1) = s.data.toList.take k ++ [s[k]] := by
  rw [List.take_succ_eq_append_getElem (by simpa using h)]; rfl
end ck
theorem infoSet : (Tryd.prog.info? 84).map (fun i => (i.zero, i.size)) = some (some (.agg (ck.setRow [])), 256) := by rw [ck.setRow_zero]; kernel_rfl

def SetPost (s : ByteArray) (w : World) (e : Ending) (w' : World) : Prop := e = .returned (.tuple #[.agg (ck.setRow s.data.toList), .bool true]) ∧ Below w.heap.size w w'

set_option maxRecDepth 100000 in
set_option maxHeartbeats 400000 in
theorem makeSet_any (s : ByteArray) (w : World) (hs : s.size ≤ 1000) (hc : ∀ i, (h : i < s.size) → s[i].toNat < 128) :
    Calls Tryd.prog 57 #[.string s] w (SetPost s w) := by
  obtain ⟨hz, hsz⟩ := zero_of_info infoSet
  have HC := Lib.hid hc
  clear hc
  go_enter Tryd.func57, Tryd.ntmps57
  go_wp2
  go_loopg [4, 5] s.size (fun gk i c wr => ∃ k : Nat, k ≤ s.size ∧ gk = s.size - k ∧ i = .int .i64 k ∧ wr.heap[w.heap.size]? = some (.cells (ck.setRow (s.data.toList.take k)) 84 (0, 0)) ∧ Below w.heap.size w wr)
  case atStart => exact ⟨0, by omega, rfl, rfl, heap_alloc_last _ _, (Below.refl _ _).alloc (Nat.le_refl _) _⟩
  case round =>
    obtain ⟨k, hk, hg, rfl, hb0, hnx⟩ := hrel
    have Hg := Lib.hid hg
    have H0 := Lib.hid hb0
    have Hn := Lib.hid hnx
    clear hg hb0 hnx hz
    by_cases hlt : k < s.size
    · clear hsz
      have hx := HC.out k hlt
      have HT := Lib.hid (ck.take_snoc s k hlt)
      obtain ⟨x, hx0⟩ : ∃ x : UInt8, s[k] = x := ⟨_, rfl⟩
      have HX := Lib.hid hx0
      have hge : decide (128 ≤ (x.toNat : Int)) = false := by rw [hx0] at hx; simp; omega
      have hi : (x.toNat : Int) < 256 := by rw [hx0] at hx; omega
      rw [hx0] at hx
      have hcell : ∃ u, wr.cell? ⟨w.heap.size, x.toNat, none⟩ = some u := ⟨_, (cell_of_row wr w.heap.size x.toNat _ 84 (0, 0) H0.out).trans (ck.setRow_get _ _ (by omega))⟩
      obtain ⟨u, hcell⟩ := hcell
      have hfr := frozen_of_row wr w.heap.size x.toNat _ 84 H0.out
      go_wp2
      go_roundg (s.size - (k + 1))
      case measure => have := Hg.out; omega
      case rel =>
        refine ⟨k + 1, by omega, rfl, by go_num, ?_, Hn.out.setCell (by simp) _⟩
        rw [heap_setCell_same _ _ _ _ _ _ H0.out, HT.out, HX.out]
        exact congrArg (fun r => some (Obj.cells r 84 (0, 0))) (ck.setRow_set _ _)
    · obtain rfl : k = s.size := by omega
      have Hz : Hid (Option.map (fun x => x.size) (Tryd.prog.info? 84) = some (ck.setRow s.data.toList).size) := by rw [ck.setRow_size]; exact hsz
      have H1 : Hid (wr.heap[w.heap.size]? = some (.cells (ck.setRow s.data.toList) 84 (0, 0))) := Lib.hid (by have := H0.out; rwa [List.take_of_length_le (by simp)] at this)
      clear hsz
      go_wp2_with (first
        | (with_reducible refine wpList_load_row rfl 84 _ rfl w.heap.size rfl 84 _ (0, 0) _ H1.out Tryd.underlying84 rfl Hz.out ?_)
        | (with_reducible refine wpList_store_row rfl 84 _ _ rfl w.heap.size _ rfl rfl 84 _ H1.out Hz.out (ck.setRow_sizes _ _) (ck.setRow_one _) ?_))
      exact bodyPost_ret (results_cell_tmp (p := 2) (q := 3) (ty := 84) rfl _ _ w.heap.size 84 _ (0, 0) _ _ rfl rfl (setRow_heap wr _ _ _ _ _ H1.out) Tryd.underlying84 rfl Hz.out) rfl ⟨rfl, below_setRow Hn.out (Nat.le_refl _) _⟩

namespace ck
def inSet (l : List UInt8) (x : UInt8) : Bool := l.any fun y => y.toNat == x.toNat
/-- four letters -/
def isLet (x : UInt8) : Bool := (65 ≤ x.toNat && x.toNat ≤ 90) || (97 ≤ x.toNat && x.toNat ≤ 122)
def abc : ByteArray := ⟨#[65, 66, 67, 68, 69, 70, 71, 72, 73, 74, 75, 76, 77, 78, 79, 80, 81, 82, 83, 84, 85, 86, 87, 88, 89, 90, 97, 98, 99, 100, 101, 102, 103, 104, 105, 106, 107, 108, 109, 110, 111, 112, 113, 114, 115, 116, 117, 118, 119, 120, 121, 122]⟩
theorem inSet_abc (x : UInt8) : inSet abc.data.toList x = isLet x := by
  have h : ∀ n : Fin 256, inSet abc.data.toList (UInt8.ofNat n) = isLet (UInt8.ofNat n) := by decide +kernel
  have := h ⟨x.toNat, x.toNat_lt⟩
  simpa using this
def letters4 (s : ByteArray) : Bool := s.size == 4 && s.data.toList.all isLet
end ck

set_option maxRecDepth 100000 in
theorem contains_any (l : List UInt8) (x : UInt8) (g : Nat) (w : World) (h : w.heap[g]? = some (.cells (ck.setRow l) 84 (0, 0))) :
    Calls Tryd.prog 63 #[.pointer (some ⟨g, 0, none⟩), .int .u8 (x.toNat : Nat)] w fun e w' => e = .returned (.bool (ck.inSet l x)) ∧ w = w' := by
  have hx : x.toNat < 256 := x.toNat_lt
  have hi : (x.toNat : Int) < 256 := by omega
  have hcell : w.cell? ⟨g, x.toNat, none⟩ = some (.bool (ck.inSet l x)) := (cell_of_row w g x.toNat _ 84 (0, 0) h).trans (ck.setRow_get _ _ hx)
  clear h
  go_enter Tryd.func63, Tryd.ntmps63
  go_wp2
  go_ret
  exact ⟨rfl, rfl⟩

/-- what trimming at the right leaves -/
def ck.TrimR (l : List UInt8) (s r : ByteArray) : Prop := ∃ k, k ≤ s.size ∧ r.data.toList = s.data.toList.take k ∧ ∀ x ∈ s.data.toList.drop k, ck.inSet l x = true
theorem ck.TrimR.step {l : List UInt8} {s r : ByteArray} (h : ck.TrimR l s r) (hz : r.size - 1 < r.size) (hin : ck.inSet l r[r.size - 1] = true) : ck.TrimR l s (r.extract 0 (r.size - 1)) := by
  obtain ⟨k, hk, hr, ha⟩ := h
  have hn : r.size = k := by
    have h1 : r.data.toList.length = (s.data.toList.take k).length := by rw [hr]
    have h2 : s.data.toList.length = s.size := rfl
    have h3 : r.data.toList.length = r.size := rfl
    rw [List.length_take] at h1
    omega
  subst hn
  refine ⟨r.size - 1, by omega, ?_, ?_⟩
  · rw [ByteArray.data_extract, Array.toList_extract]
    simp only [List.extract_eq_take_drop, List.drop_zero, Nat.sub_zero]
    rw [hr, List.take_take, Nat.min_eq_left (by omega)]
  · intro x hx
    have hl : r.size - 1 < s.data.toList.length := by have h2 : s.data.toList.length = s.size := rfl; omega
    rw [List.drop_eq_getElem_cons hl, show r.size - 1 + 1 = r.size from by omega] at hx
    rcases List.mem_cons.1 hx with h1 | h1
    · have h2 : r.data.toList[r.size - 1]'(by have h3 : r.data.toList.length = r.size := rfl; omega) = s.data.toList[r.size - 1]'hl := by
        simp only [hr, List.getElem_take]
      have h4 : r[r.size - 1] = r.data.toList[r.size - 1]'(by have h3 : r.data.toList.length = r.size := rfl; omega) := rfl
      rw [h1, ← h2, ← h4]
      exact hin
    · exact ha x h1
def RightPost (l : List UInt8) (s : ByteArray) (w : World) (e : Ending) (w' : World) : Prop := (∃ r, e = .returned (.string r) ∧ ck.TrimR l s r ∧ (r.size = 0 ∨ ∃ x ∈ r.data.toList, ck.inSet l x = false)) ∧ w = w'

set_option maxRecDepth 100000 in
set_option maxHeartbeats 400000 in
theorem trimRight_any (l : List UInt8) (s : ByteArray) (g : Nat) (w : World) (hs : s.size ≤ 1000) (h : w.heap[g]? = some (.cells (ck.setRow l) 84 (0, 0))) :
    Calls Tryd.prog 59 #[.string s, .pointer (some ⟨g, 0, none⟩)] w (RightPost l s w) := by
  have H := Lib.hid h
  clear h
  go_enter Tryd.func59, Tryd.ntmps59
  go_wp2
  go_loopg [0] s.size (fun gk v wr => ∃ (r : ByteArray), v = .string r ∧ gk = r.size ∧ r.size ≤ s.size ∧ ck.TrimR l s r ∧ wr = w)
  case atStart => exact ⟨s, rfl, rfl, Nat.le_refl _, ⟨s.size, Nat.le_refl _, (List.take_of_length_le (Nat.le_refl s.data.toList.length)).symm, fun x hx => by rw [show List.drop s.size s.data.toList = [] from List.drop_eq_nil_of_le (Nat.le_refl s.data.toList.length)] at hx; cases hx⟩, rfl⟩
  case round =>
    obtain ⟨r, rfl, hg, hr, ht, rfl⟩ := hrel
    have Hg := Lib.hid hg
    have HT := Lib.hid ht
    clear hg ht
    by_cases hz : r.size = 0
    · go_wp2
      go_ret
      exact ⟨⟨_, rfl, HT.out, .inl hz⟩, rfl⟩
    · have hz1 : 0 < r.size := by omega
      have hlt : r.size - 1 < r.size := by omega
      have hz2 : (1 : Int) ≤ (r.size : Int) := by omega
      have hz3 : (0 : Int) ≤ (r.size : Int) - 1 := by omega
      have hz4 : (r.size : Int) - 1 < (r.size : Int) := by omega
      have hz5 : ((r.size : Int) - 1).toNat = r.size - 1 := by omega
      go_wp2_with fail
      refine (contains_any l r[r.size - 1] g _ H.out).mono ?_
      rintro e w1 ⟨rfl, rfl⟩
      by_cases hin : ck.inSet l r[r.size - 1] = true
      · rw [hin]
        have HIN := Lib.hid hin
        clear hin
        go_wp2_with fail
        go_roundg (r.size - 1)
        case measure => have := Hg.out; omega
        case rel => exact ⟨_, rfl, by simp, by simp; omega, HT.out.step hlt HIN.out, rfl⟩
      · have hin' : ck.inSet l r[r.size - 1] = false := by simpa using hin
        rw [hin']
        have HIN := Lib.hid hin'
        clear hin hin'
        go_wp2_with fail
        go_ret
        exact ⟨⟨_, rfl, HT.out, .inr ⟨_, Array.getElem_mem_toList hlt, HIN.out⟩⟩, rfl⟩

/-- what trimming at the left leaves -/
def ck.TrimL (l : List UInt8) (s r : ByteArray) : Prop := ∃ k, k ≤ s.size ∧ r.data.toList = s.data.toList.drop k ∧ ∀ x ∈ s.data.toList.take k, ck.inSet l x = true
theorem ck.TrimL.step {l : List UInt8} {s r : ByteArray} (h : ck.TrimL l s r) (hz : 0 < r.size) (hin : ck.inSet l r[0] = true) : ck.TrimL l s (r.extract 1 r.size) := by
  obtain ⟨k, hk, hr, ha⟩ := h
  have h2 : s.data.toList.length = s.size := rfl
  have h3 : r.data.toList.length = r.size := rfl
  have hn : r.size = s.size - k := by
    have h1 : r.data.toList.length = (s.data.toList.drop k).length := by rw [hr]
    rw [List.length_drop] at h1
    omega
  refine ⟨k + 1, by omega, ?_, ?_⟩
  · rw [ByteArray.data_extract, Array.toList_extract]
    simp only [List.extract_eq_take_drop]
    rw [hr, List.drop_drop, List.take_of_length_le (by rw [List.length_drop]; omega)]
  · intro x hx
    have hl : k < s.data.toList.length := by omega
    rw [List.take_succ_eq_append_getElem hl] at hx
    rcases List.mem_append.1 hx with h1 | h1
    · exact ha x h1
    · obtain rfl : x = s.data.toList[k] := by simpa using h1
      have h4 : r[0] = r.data.toList[0]'(by omega) := rfl
      have h5 : r.data.toList[0]'(by omega) = s.data.toList[k]'hl := by
        simp only [hr, List.getElem_drop, Nat.add_zero]
      rw [← h5, ← h4]
      exact hin
def LeftPost (l : List UInt8) (s : ByteArray) (w : World) (e : Ending) (w' : World) : Prop := (∃ r, e = .returned (.string r) ∧ ck.TrimL l s r ∧ (r.size = 0 ∨ ∃ x ∈ r.data.toList, ck.inSet l x = false)) ∧ w = w'

set_option maxRecDepth 100000 in
set_option maxHeartbeats 400000 in
theorem trimLeft_any (l : List UInt8) (s : ByteArray) (g : Nat) (w : World) (h : w.heap[g]? = some (.cells (ck.setRow l) 84 (0, 0))) :
    Calls Tryd.prog 58 #[.string s, .pointer (some ⟨g, 0, none⟩)] w (LeftPost l s w) := by
  have H := Lib.hid h
  clear h
  go_enter Tryd.func58, Tryd.ntmps58
  go_wp2
  go_loopg [0] s.size (fun gk v wr => ∃ (r : ByteArray), v = .string r ∧ gk = r.size ∧ r.size ≤ s.size ∧ ck.TrimL l s r ∧ wr = w)
  case atStart => exact ⟨s, rfl, rfl, Nat.le_refl _, ⟨0, Nat.zero_le _, rfl, fun x hx => by cases hx⟩, rfl⟩
  case round =>
    obtain ⟨r, rfl, hg, hr, ht, rfl⟩ := hrel
    have Hg := Lib.hid hg
    have HT := Lib.hid ht
    clear hg ht
    by_cases hz : r.size = 0
    · go_wp2
      go_ret
      exact ⟨⟨_, rfl, HT.out, .inl hz⟩, rfl⟩
    · have hz1 : 0 < r.size := by omega
      have hz2 : (1 : Int) ≤ (r.size : Int) := by omega
      go_wp2_with fail
      refine (contains_any l r[0] g _ H.out).mono ?_
      rintro e w1 ⟨rfl, rfl⟩
      by_cases hin : ck.inSet l r[0] = true
      · rw [hin]
        have HIN := Lib.hid hin
        clear hin
        go_wp2_with fail
        go_roundg (r.size - 1)
        case measure => have := Hg.out; omega
        case rel => exact ⟨_, rfl, by simp, by simp; omega, HT.out.step hz1 HIN.out, rfl⟩
      · have hin' : ck.inSet l r[0] = false := by simpa using hin
        rw [hin']
        have HIN := Lib.hid hin'
        clear hin hin'
        go_wp2_with fail
        go_ret
        exact ⟨⟨_, rfl, HT.out, .inr ⟨_, Array.getElem_mem_toList hz1, HIN.out⟩⟩, rfl⟩

theorem ck.ne_nil {s : ByteArray} (h : 0 < s.size) : ¬ s.toList = [] ∧ s.toList.isEmpty = false := by
  rw [ByteArray.toList_eq]
  have h3 : s.data.toList.length = s.size := rfl
  cases h : s.data.toList with
  | nil => rw [h] at h3; simp at h3; omega
  | cons _ _ => exact ⟨by simp, rfl⟩
def TrimPost (l : List UInt8) (s : ByteArray) (w : World) (e : Ending) (w' : World) : Prop := (∃ r, e = .returned (.string r) ∧ (r.size = 0 ↔ ∀ x ∈ s.data.toList, ck.inSet l x = true)) ∧ Below w.heap.size w w'
theorem ck.trim_both {l : List UInt8} {s r t : ByteArray} (h1 : ck.TrimR l s r) (h2 : ck.TrimL l r t) (h3 : t.size = 0 ∨ ∃ x ∈ t.data.toList, ck.inSet l x = false) : t.size = 0 ↔ ∀ x ∈ s.data.toList, ck.inSet l x = true := by
  obtain ⟨k, hk, hr, ha⟩ := h1
  obtain ⟨j, hj, ht, hb⟩ := h2
  have h4 : t.data.toList.length = t.size := rfl
  constructor
  · intro h0 x hx
    rw [← List.take_append_drop k s.data.toList] at hx
    rcases List.mem_append.1 hx with h | h
    · rw [← hr, ← List.take_append_drop j r.data.toList, ← ht] at h
      rcases List.mem_append.1 h with h | h
      · exact hb x h
      · rw [List.length_eq_zero_iff.1 (h4.trans h0)] at h
        cases h
    · exact ha x h
  · intro hall
    rcases h3 with h | ⟨x, hx, hf⟩
    · exact h
    · rw [ht] at hx
      have h5 := List.mem_of_mem_drop hx
      rw [hr] at h5
      rw [hall x (List.mem_of_mem_take h5)] at hf
      cases hf

set_option maxRecDepth 100000 in
set_option maxHeartbeats 400000 in
theorem trim_any (c s : ByteArray) (w : World) (hs0 : 0 < s.size) (hs : s.size ≤ 1000) (hc2 : 2 ≤ c.size) (hc3 : c.size ≤ 1000) (hc : ∀ i, (h : i < c.size) → c[i].toNat < 128) :
    Calls Tryd.prog 50 #[.string s, .string c] w (TrimPost c.data.toList s w) := by
  obtain ⟨hz, hsz⟩ := zero_of_info infoSet
  have Hz : Hid (Option.map (fun x => x.size) (Tryd.prog.info? 84) = some (ck.setRow c.data.toList).size) := by rw [ck.setRow_size]; exact hsz
  have HC := Lib.hid hc
  obtain ⟨e1, e2⟩ := ck.ne_nil hs0
  obtain ⟨e4, e5⟩ := ck.ne_nil (show 0 < c.size by omega)
  have e3 : ((c.size : Int) == 1) = false := by simp; omega
  clear hsz hc
  go_enter Tryd.func50, Tryd.ntmps50
  go_wp2_with fail
  refine (makeSet_any c _ hc3 HC.out).mono ?_
  rintro e w1 ⟨rfl, hb1⟩
  have B1 := Lib.hid hb1
  clear hb1
  go_wp2_with (with_reducible refine wpList_store_row rfl 84 _ _ rfl w1.heap.size _ rfl rfl 84 _ (heap_alloc_last _ _) Hz.out (ck.setRow_sizes _ _) (ck.setRow_one _) ?_; rw [World.setRow_alloc_new])
  have B2 := Lib.hid (B1.out.alloc B1.out.size (.cells (ck.setRow c.data.toList) 84))
  have Q2 := Lib.hid (heap_alloc_last w1 (.cells (ck.setRow c.data.toList) 84))
  refine (trimRight_any c.data.toList s w1.heap.size _ hs Q2.out).mono ?_
  rintro e w2 ⟨⟨r, rfl, hr, _⟩, rfl⟩
  have HR := Lib.hid hr
  clear hr
  go_wp2_with fail
  refine (trimLeft_any c.data.toList r w1.heap.size _ Q2.out).mono ?_
  rintro e w2 ⟨⟨t, rfl, ht, h3⟩, rfl⟩
  have HT := Lib.hid (ck.trim_both HR.out ht h3)
  clear ht h3
  go_wp2_with fail
  go_ret
  exact ⟨⟨t, rfl, HT.out⟩, B2.out⟩

def AbcPost (s : ByteArray) (w : World) (e : Ending) (w' : World) : Prop := (∃ r : ByteArray, e = .returned (.string r) ∧ r.toList.isEmpty = s.data.toList.all ck.isLet) ∧ Below w.heap.size w w'
theorem trim_abc (s : ByteArray) (w : World) (hs : s.size = 4) : Calls Tryd.prog 50 #[.string s, .string ⟨#[65, 66, 67, 68, 69, 70, 71, 72, 73, 74, 75, 76, 77, 78, 79, 80, 81, 82, 83, 84, 85, 86, 87, 88, 89, 90, 97, 98, 99, 100, 101, 102, 103, 104, 105, 106, 107, 108, 109, 110, 111, 112, 113, 114, 115, 116, 117, 118, 119, 120, 121, 122]⟩] w (AbcPost s w) := by
  refine (trim_any ck.abc s w (by omega) (by omega) (by decide) (by decide) (by decide +kernel)).mono fun e w' ⟨⟨r, h1, h2⟩, h3⟩ => ⟨⟨r, h1, ?_⟩, h3⟩
  have h4 : r.data.toList.length = r.size := rfl
  rw [ByteArray.toList_eq, Bool.eq_iff_iff, List.isEmpty_iff, List.all_eq_true]
  simp only [ck.inSet_abc] at h2
  rw [← h2]
  constructor
  · intro h; rw [h] at h4; exact h4.symm
  · intro h; exact List.length_eq_zero_iff.1 (h4.trans h)

def LettersPost (s : ByteArray) (w : World) (e : Ending) (w' : World) : Prop := e = .returned (.bool (ck.letters4 s)) ∧ Below w.heap.size w w'
set_option maxRecDepth 100000 in
set_option maxHeartbeats 400000 in
theorem letters_any (s : ByteArray) (w : World) : Calls Tryd.prog 34 #[.string s] w (LettersPost s w) := by
  by_cases h4 : s.size = 4
  · have hl : Hid (ck.letters4 s = s.data.toList.all ck.isLet) := Lib.hid (by unfold ck.letters4; rw [h4]; rfl)
    have h5 : ((s.size : Int) == 4) = true := by simp; omega
    have H4 := Lib.hid h4
    clear h4
    go_enter Tryd.func34, Tryd.ntmps34
    go_wp2_with fail
    refine (trim_abc s _ H4.out).mono ?_
    rintro e w1 ⟨⟨r, rfl, hr⟩, hb⟩
    have HR := Lib.hid hr
    have HB := Lib.hid hb
    clear hr hb
    go_wp2_with fail
    go_ret
    exact ⟨by rw [hl.out, ← HR.out]; rfl, HB.out⟩
  · have hl : Hid (ck.letters4 s = false) := Lib.hid (by unfold ck.letters4; simp [h4])
    have h5 : ((s.size : Int) == 4) = false := by simp; omega
    clear h4
    go_enter Tryd.func34, Tryd.ntmps34
    go_wp2_with fail
    go_ret
    exact ⟨by rw [hl.out]; rfl, Below.refl _ _⟩
end Go.Proofs.YtfaemhmefijaoaaDoor
