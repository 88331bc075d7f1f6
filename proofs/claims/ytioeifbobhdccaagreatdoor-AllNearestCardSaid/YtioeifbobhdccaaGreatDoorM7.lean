/- Images. -/
import Derived.Test.YtioeifbobhdccaaGreatDoorM6
import Derived.Test.YtioeifbobhdccaaGreatDoorM2
import Derived.IntWalk
import Derived.Laws.AppendOwnNone
import Derived.Deep.Onto
namespace Go.Proofs.YtioeifbobhdccaaGreatDoor
open Go.RowKit

/-- may an image of this size hold so many samples? -/
def imgGood (W H : Int) (n : Nat) : Prop := 1 ≤ W ∧ 1 ≤ H ∧ W ≤ 4096 ∧ H ≤ 4096 ∧ W * H ≤ 65536 ∧ (n : Int) = 4 * W * H
instance (W H : Int) (n : Nat) : Decidable (imgGood W H n) := by unfold imgGood; exact inferInstance
def goodB (W H : Int) (n : Nat) : Bool := decide (imgGood W H n)
def fitsB (W H : Int) : Bool := decide (1 ≤ W ∧ 1 ≤ H ∧ W ≤ 4096 ∧ H ≤ 4096 ∧ W * H ≤ 65536)
theorem goodB_true {W H : Int} {n : Nat} (h : imgGood W H n) : goodB W H n = true := decide_eq_true h
theorem goodB_false {W H : Int} {n : Nat} (h : ¬ imgGood W H n) : goodB W H n = false := decide_eq_false h
theorem fitsB_true {W H : Int} (h : 1 ≤ W ∧ 1 ≤ H ∧ W ≤ 4096 ∧ H ≤ 4096 ∧ W * H ≤ 65536) : fitsB W H = true := decide_eq_true h
theorem fitsB_false {W H : Int} (h : ¬ (1 ≤ W ∧ 1 ≤ H ∧ W ≤ 4096 ∧ H ≤ 4096 ∧ W * H ≤ 65536)) : fitsB W H = false := decide_eq_false h
theorem sides_mul {W H : Int} (h1 : 1 ≤ W) (h2 : 1 ≤ H) (h3 : W ≤ 4096) (h4 : H ≤ 4096) : 1 ≤ W * H ∧ W * H ≤ 16777216 ∧ 4 * W * H = 4 * (W * H) := by
  refine ⟨?_, ?_, Int.mul_assoc _ _ _⟩
  · have := Int.mul_le_mul h1 h2 (by omega) (by omega); omega
  · have := Int.mul_le_mul h3 h4 (by omega) (by omega); omega

/-- the k-th pixel of a list of samples -/
def pix (l : List Int) (k : Nat) : C4 := ⟨l.getD (4 * k) 0, l.getD (4 * k + 1) 0, l.getD (4 * k + 2) 0, l.getD (4 * k + 3) 0⟩
def C4.list (c : C4) : List Int := [c.r, c.g, c.b, c.a]
def u16s (l : List Int) : Prop := ∀ x ∈ l, 0 ≤ x ∧ x ≤ 65535
theorem u16s.at {l : List Int} (h : u16s l) (i : Nat) : 0 ≤ l.getD i 0 ∧ l.getD i 0 ≤ 65535 := by
  rcases Nat.lt_or_ge i l.length with hi | hi
  · rw [List.getD_eq_getElem?_getD, List.getElem?_eq_getElem hi]
    exact h _ (List.getElem_mem hi)
  · rw [List.getD_eq_getElem?_getD, List.getElem?_eq_none hi]
    simp
theorem u16s.pix {l : List Int} (h : u16s l) (k : Nat) : (pix l k).ok := ⟨h.at _, h.at _, h.at _, h.at _⟩

set_option maxRecDepth 100000 in
set_option maxHeartbeats 1000000 in
theorem good_any (W H : Int) (p : Option Addr) (n cap : Nat) (w : World) :
    Calls Tryz.prog 16 #[.agg #[.int .i64 W, .int .i64 H, .slice p n cap]] w fun e w' => e = .returned (.bool (goodB W H n)) ∧ Below w.heap.size w w' := by

  by_cases h1 : 1 ≤ W ∧ 1 ≤ H
  · by_cases h2 : W ≤ 4096 ∧ H ≤ 4096
    · obtain ⟨m1, m2, m3⟩ := sides_mul h1.1 h1.2 h2.1 h2.2
      obtain ⟨q, hq⟩ : ∃ q, q = W * H := ⟨_, rfl⟩
      have hg : Hid (goodB W H n = decide (q ≤ 65536 ∧ (n : Int) = 4 * q)) := Lib.hid (by
        unfold goodB
        refine decide_eq_decide.2 ?_
        unfold imgGood
        rw [m3, hq]
        exact ⟨fun h => ⟨h.2.2.2.2.1, h.2.2.2.2.2⟩, fun h => ⟨h1.1, h1.2, h2.1, h2.2, h.1, h.2⟩⟩)
      have e1 : IntKind.i64.wrap (W * H) = q := by rw [hq]; exact IntWalk.i64_in _ (by omega)
      have e2 : IntKind.i64.wrap (4 * W * H) = 4 * q := by rw [m3, hq]; exact IntWalk.i64_in _ (by omega)
      rw [← hq] at m1 m2
      clear m3 hq
      obtain ⟨h1, h1'⟩ := h1
      obtain ⟨h2, h2'⟩ := h2
      by_cases h3 : q ≤ 65536
      · by_cases h4 : (n : Int) = 4 * q
        · have hv : Hid (goodB W H n = true) := Lib.hid (by rw [hg.out]; exact decide_eq_true ⟨h3, h4⟩)
          have h4' : ((n : Int) == 4 * q) = true := by simpa using h4
          go_enter Tryz.func16, Tryz.ntmps16
          go_wp2
          all_goals
            go_ret
            exact ⟨by rw [hv.out]; rfl, (Below.refl _ _).alloc (Nat.le_refl _) _⟩
        · have hv : Hid (goodB W H n = false) := Lib.hid (by rw [hg.out]; exact decide_eq_false fun h => h4 h.2)
          have h4' : ((n : Int) == 4 * q) = false := by simpa using h4
          go_enter Tryz.func16, Tryz.ntmps16
          go_wp2
          all_goals
            go_ret
            exact ⟨by rw [hv.out]; rfl, (Below.refl _ _).alloc (Nat.le_refl _) _⟩
      · have hv : Hid (goodB W H n = false) := Lib.hid (by rw [hg.out]; exact decide_eq_false fun h => h3 h.1)
        go_enter Tryz.func16, Tryz.ntmps16
        go_wp2
        all_goals
          go_ret
          exact ⟨by rw [hv.out]; rfl, (Below.refl _ _).alloc (Nat.le_refl _) _⟩
    · have hv : Hid (goodB W H n = false) := Lib.hid (goodB_false fun h => h2 ⟨h.2.2.1, h.2.2.2.1⟩)
      obtain ⟨h1, h1'⟩ := h1
      go_enter Tryz.func16, Tryz.ntmps16
      go_wp2
      all_goals
        go_ret
        exact ⟨by rw [hv.out]; rfl, (Below.refl _ _).alloc (Nat.le_refl _) _⟩
  · have hv : Hid (goodB W H n = false) := Lib.hid (goodB_false fun h => h1 ⟨h.1, h.2.1⟩)
    go_enter Tryz.func16, Tryz.ntmps16
    go_wp2
    all_goals
      go_ret
      exact ⟨by rw [hv.out]; rfl, (Below.refl _ _).alloc (Nat.le_refl _) _⟩

set_option maxRecDepth 100000 in
set_option maxHeartbeats 1000000 in
theorem fits_any (W H : Int) (w : World) :
    Calls Tryz.prog 22 #[.int .i64 W, .int .i64 H] w fun e w' => e = .returned (.bool (fitsB W H)) ∧ w = w' := by
  by_cases h1 : 1 ≤ W ∧ 1 ≤ H
  · by_cases h2 : W ≤ 4096 ∧ H ≤ 4096
    · obtain ⟨m1, m2, m3⟩ := sides_mul h1.1 h1.2 h2.1 h2.2
      obtain ⟨q, hq⟩ : ∃ q, q = W * H := ⟨_, rfl⟩
      have hg : Hid (fitsB W H = decide (q ≤ 65536)) := Lib.hid (by
        unfold fitsB
        refine decide_eq_decide.2 ?_
        rw [hq]
        exact ⟨fun h => h.2.2.2.2, fun h => ⟨h1.1, h1.2, h2.1, h2.2, h⟩⟩)
      have e1 : IntKind.i64.wrap (W * H) = q := by rw [hq]; exact IntWalk.i64_in _ (by omega)
      rw [← hq] at m1 m2
      clear m3 hq
      obtain ⟨h1, h1'⟩ := h1
      obtain ⟨h2, h2'⟩ := h2
      by_cases h3 : q ≤ 65536
      · have hv : Hid (fitsB W H = true) := Lib.hid (by rw [hg.out]; exact decide_eq_true h3)
        go_enter Tryz.func22, Tryz.ntmps22
        go_wp2
        all_goals
          go_ret
          exact ⟨by rw [hv.out]; rfl, rfl⟩
      · have hv : Hid (fitsB W H = false) := Lib.hid (by rw [hg.out]; exact decide_eq_false h3)
        go_enter Tryz.func22, Tryz.ntmps22
        go_wp2
        all_goals
          go_ret
          exact ⟨by rw [hv.out]; rfl, rfl⟩
    · have hv : Hid (fitsB W H = false) := Lib.hid (fitsB_false fun h => h2 ⟨h.2.2.1, h.2.2.2.1⟩)
      obtain ⟨h1, h1'⟩ := h1
      rcases (show 4096 < W ∨ (W ≤ 4096 ∧ 4096 < H) by omega) with h | ⟨h, h'⟩
      all_goals
        clear h2
        go_enter Tryz.func22, Tryz.ntmps22
        go_wp2
        all_goals
          go_ret
          exact ⟨by rw [hv.out]; rfl, rfl⟩
  · have hv : Hid (fitsB W H = false) := Lib.hid (fitsB_false fun h => h1 ⟨h.1, h.2.1⟩)
    rcases (show W < 1 ∨ (1 ≤ W ∧ H < 1) by omega) with h | ⟨h, h'⟩
    all_goals
      clear h1
      go_enter Tryz.func22, Tryz.ntmps22
      go_wp2
      all_goals
        go_ret
        exact ⟨by rw [hv.out]; rfl, rfl⟩

set_option maxRecDepth 100000 in
set_option maxHeartbeats 1000000 in
theorem refGood_any (W H : Int) (p : Option Addr) (n cap : Nat) (w : World) :
    Calls Tryz.prog 7 #[.agg #[.int .i64 W, .int .i64 H, .slice p n cap]] w fun e w' => e = .returned (.bool (goodB W H n)) ∧ Below w.heap.size w w' := by

  by_cases hf : fitsB W H = true
  · obtain ⟨h1, h1', h2, h2', h3⟩ := of_decide_eq_true hf
    obtain ⟨m1, m2, m3⟩ := sides_mul h1 h1' h2 h2'
    have HF := Lib.hid hf
    clear hf
    obtain ⟨q, hq⟩ : ∃ q, q = W * H := ⟨_, rfl⟩
    rw [← hq] at m1 m2 h3
    have e2 : IntKind.i64.wrap (4 * W * H) = 4 * q := by rw [m3, hq]; exact IntWalk.i64_in _ (by omega)
    have hg : Hid (goodB W H n = decide ((n : Int) = 4 * q)) := Lib.hid (by
      unfold goodB
      refine decide_eq_decide.2 ?_
      unfold imgGood
      rw [m3, ← hq]
      exact ⟨fun h => h.2.2.2.2.2, fun h => ⟨h1, h1', h2, h2', h3, h⟩⟩)
    clear m3 hq
    by_cases h4 : (n : Int) = 4 * q
    · have hv : Hid (goodB W H n = true) := Lib.hid (by rw [hg.out]; exact decide_eq_true h4)
      have h4' : ((n : Int) == 4 * q) = true := by simpa using h4
      clear h4
      go_enter Tryz.func7, Tryz.ntmps7
      go_wp2_with fail
      refine (fits_any W H _).mono ?_
      rw [HF.out]
      rintro e w1 ⟨rfl, rfl⟩
      go_wp2
      go_ret
      exact ⟨by rw [hv.out]; rfl, (Below.refl _ _).alloc (Nat.le_refl _) _⟩
    · have hv : Hid (goodB W H n = false) := Lib.hid (by rw [hg.out]; exact decide_eq_false h4)
      have h4' : ((n : Int) == 4 * q) = false := by simpa using h4
      clear h4
      go_enter Tryz.func7, Tryz.ntmps7
      go_wp2_with fail
      refine (fits_any W H _).mono ?_
      rw [HF.out]
      rintro e w1 ⟨rfl, rfl⟩
      go_wp2
      go_ret
      exact ⟨by rw [hv.out]; rfl, (Below.refl _ _).alloc (Nat.le_refl _) _⟩
  · have hf' : fitsB W H = false := by simpa using hf
    have hv : Hid (goodB W H n = false) := Lib.hid (goodB_false fun h => hf (fitsB_true ⟨h.1, h.2.1, h.2.2.1, h.2.2.2.1, h.2.2.2.2.1⟩))
    have HF := Lib.hid hf'
    clear hf hf'
    go_enter Tryz.func7, Tryz.ntmps7
    go_wp2_with fail
    refine (fits_any W H _).mono ?_
    rw [HF.out]
    rintro e w1 ⟨rfl, rfl⟩
    go_wp2
    go_ret
    exact ⟨by rw [hv.out]; rfl, (Below.refl _ _).alloc (Nat.le_refl _) _⟩
theorem infoU16 : (Tryz.prog.info? 36).map (fun i => (i.zero, i.size, i.bytes)) = some (some (.int .u16 0), 1, 2) := by kernel_rfl
theorem imgSize : (Tryz.prog.info? 24).map (·.size) = some 3 := by kernel_rfl
theorem imgSz (a b c a' b' c' : Value) : (#[a, b, c] : Array Value).size = (#[a', b', c'] : Array Value).size := rfl
theorem imgSize3 (a b c : Value) : (Tryz.prog.info? 24).map (·.size) = some (#[a, b, c] : Array Value).size := imgSize
theorem imgOne (W H : Int) (p : Option Addr) (n cap : Nat) : (#[.int .i64 W, .int .i64 H, .slice p n cap] : Array Value).all (·.oneCell') = true := by simp [Value.oneCell']

/-- an image whose samples lie in new memory -/
def ImgOut (base : Nat) (W H : Int) (l : List Int) (w : World) (e : Ending) (w' : World) : Prop :=
  ∃ g cap, e = .returned (.agg #[.int .i64 W, .int .i64 H, .slice (some ⟨g, 0, none⟩) l.length cap]) ∧ base ≤ g ∧ w'.ownsRow base 36 1 (.slice (some ⟨g, 0, none⟩) l.length cap) l.length (l.map (Value.int .u16)) ∧ Below w.heap.size w w'



set_option maxRecDepth 100000 in
set_option maxHeartbeats 1000000 in
theorem copy_any (W H : Int) (p : Option Addr) (n cap : Nat) (l : List Int) (w : World) (h : Sl .u16 w p n cap l) (hr : n * 2 ≤ 140737488355328) :
    Calls Tryz.prog 21 #[.agg #[.int .i64 W, .int .i64 H, .slice p n cap]] w (ImgOut w.heap.size W H l w) := by
  obtain ⟨i0, hi, hz0, hz1, hz2⟩ := info_parts infoU16
  have B0 := Lib.hid (((Below.refl w.heap.size w).alloc (Nat.le_refl _) (.cells #[.int .i64 W, .int .i64 H, .slice p n cap] 24)).alloc (by simp) (.cells #[.int .i64 0, .int .i64 0, .slice none 0 0] 24))
  obtain ⟨q0, q1⟩ := heap2 w (.cells #[.int .i64 W, .int .i64 H, .slice p n cap] 24) (.cells #[.int .i64 0, .int .i64 0, .slice none 0 0] 24)
  have Q0 := Lib.hid q0
  have Q1 := Lib.hid q1
  have S2 : Hid (((w.alloc (.cells #[.int .i64 W, .int .i64 H, .slice p n cap] 24)).alloc (.cells #[.int .i64 0, .int .i64 0, .slice none 0 0] 24)).heap.size = w.heap.size + 1 + 1) := Lib.hid (by simp)
  have HL := Lib.hid h.len
  have HS := Lib.hid (h.below B0.out)
  have HC0 := Lib.hid h.bare
  have hfit := h.fits
  have hlit := World.ownsRow_lit (e := 36) (size := 1) ((w.alloc (.cells #[.int .i64 W, .int .i64 H, .slice p n cap] 24)).alloc (.cells #[.int .i64 0, .int .i64 0, .slice none 0 0] 24)) #[] 0 (Nat.le_refl _) (by simp) rfl
  rw [S2.out] at hlit
  have Hlit := Lib.hid hlit
  clear h q0 q1 hlit
  cases p with
  | none =>
    obtain rfl : cap = 0 := HC0.out rfl
    obtain rfl : n = 0 := by omega
    obtain rfl : l = [] := List.length_eq_zero_iff.1 HL.out
    have P0 := Lib.hid ((Below.heap_alloc _ (.cells #[] 36) _ (block_lt Q0.out)).trans Q0.out)
    have P1 := Lib.hid ((Below.heap_alloc _ (.cells #[] 36) _ (block_lt Q1.out)).trans Q1.out)
    have B1 := Lib.hid (B0.out.alloc B0.out.size (.cells #[] 36))
    obtain ⟨w1, hw1⟩ : ∃ w1, ((w.alloc (.cells #[.int .i64 W, .int .i64 H, .slice none 0 0] 24)).alloc (.cells #[.int .i64 0, .int .i64 0, .slice none 0 0] 24)).alloc (.cells #[] 36) = w1 := ⟨_, rfl⟩
    have HW := Lib.hid hw1
    rw [hw1] at P0 P1 B1 Hlit
    clear hw1
    have R2 : Hid ((w1.setCell ⟨w.heap.size, 2, none⟩ (.slice (some ⟨w.heap.size + 1 + 1, 0, none⟩) 0 0)).heap[w.heap.size + 1]? = some (.cells #[.int .i64 0, .int .i64 0, .slice none 0 0] 24)) := Lib.hid (grown_block (grownBy_setCell3 _ _ _ _) P1.out (by intro e; have := Option.some.inj e; omega))
    have c2 := (cell_of_row _ _ 2 _ _ (0, 0) P0.out).trans rfl
    have f2 := frozen_of_row _ _ 2 _ _ P0.out
    go_enter Tryz.func21, Tryz.ntmps21
    go_wp2_with (first
      | (at_builtin; rw [HW.out]; go_must (refine wpList_append_own_none rfl _ _ 22 rfl (w.heap.size + 1 + 1) 36 i0 1 Tryz.underlying22 hi _ 0 [] rfl Hlit.out rfl ?_))
      | (with_reducible refine wpList_load_row rfl 24 _ rfl w.heap.size rfl 24 #[.int .i64 W, .int .i64 H, .slice (some ⟨w.heap.size + 1 + 1, 0, none⟩) 0 0] (0, 0) _ (heap_setCell_same _ _ _ _ _ _ P0.out) Tryz.underlying24 rfl (imgSize3 _ _ _) ?_)
      | (with_reducible refine wpList_store_row rfl 24 _ _ rfl (w.heap.size + 1) _ rfl rfl 24 _ R2.out (imgSize3 _ _ _) (imgSz _ _ _ _ _ _) (imgOne _ _ _ _ _) ?_))
    refine bodyPost_ret (results_cell_row (p := 2) (ty := 24) rfl _ _ (w.heap.size + 1) 24 _ (0, 0) _ rfl (setRow_heap _ _ _ _ _ _ R2.out) Tryz.underlying24 rfl imgSize) rfl ?_
    have hr1 := (Hlit.out.kept (grownBy_setCell3 w1 w.heap.size 2 (.slice (some ⟨w.heap.size + 1 + 1, 0, none⟩) 0 0)) (.inr (by intro e; have h1 : w.heap.size + 1 + 1 = w.heap.size := Option.some.inj e; omega))).kept (grownBy_setRow _ (w.heap.size + 1) #[.int .i64 W, .int .i64 H, .slice (some ⟨w.heap.size + 1 + 1, 0, none⟩) 0 0]) (.inr (by intro e; have h1 : w.heap.size + 1 + 1 = w.heap.size + 1 := Option.some.inj e; omega))
    have hb1 := below_setRow (B1.out.setCell (p := ⟨w.heap.size, 2, none⟩) (Nat.le_refl _) (.slice (some ⟨w.heap.size + 1 + 1, 0, none⟩) 0 0)) (by omega : w.heap.size ≤ w.heap.size + 1) #[.int .i64 W, .int .i64 H, .slice (some ⟨w.heap.size + 1 + 1, 0, none⟩) 0 0]
    exact ⟨_, 0, rfl, by omega, World.ownsRow.mono hr1 (by omega), hb1⟩
  | some ad =>
    have HN := Lib.hid (HS.out.below ((Below.refl _ _).alloc (Nat.le_refl _) (.cells #[] 36))).at_news
    have P0 := Lib.hid ((Below.heap_alloc _ (.cells #[] 36) _ (block_lt Q0.out)).trans Q0.out)
    have P1 := Lib.hid ((Below.heap_alloc _ (.cells #[] 36) _ (block_lt Q1.out)).trans Q1.out)
    have B1 := Lib.hid (B0.out.alloc B0.out.size (.cells #[] 36))
    go_enter Tryz.func21, Tryz.ntmps21
    go_wp2_with (first
      | (at_builtin; go_must (refine wpList_append_own _ rfl _ _ 22 rfl (w.heap.size + 1 + 1) 36 i0 (.int .u16 0) 1 2 Tryz.underlying22 hi hz0 hz1 hz2 rfl (by decide) (.slice (some ⟨w.heap.size + 1 + 1, 0, none⟩) 0 0) 0 _ rfl Hlit.out ad n cap (l.map (Value.int .u16)) rfl (by rw [List.length_map, HL.out, Nat.mul_one]) HN.out (ints_oneCell _ _) (by unfold maxLen; omega) (by omega) (by simp) ?_; intro v' w1 hown hg hnil; have hv0 : ¬ v' = .slice none 0 0 := (fun e => absurd (hnil.1 e) (by simp)); rw [show (0 : Nat) + n = n from Nat.zero_add n] at hown; obtain ⟨g, cap', rfl, hge, hown'⟩ := fresh_of (base := w.heap.size + 1 + 1) (by simpa using hown) hv0; have Hown := Lib.hid hown'; have R0 := Lib.hid (grown_block hg P0.out (by intro e; have h1 : w.heap.size = w.heap.size + 1 + 1 := Option.some.inj e; omega)); have R1 := Lib.hid (grown_block hg P1.out (by intro e; have h1 : w.heap.size + 1 = w.heap.size + 1 + 1 := Option.some.inj e; omega)); have R2 : Hid ((w1.setCell ⟨w.heap.size, 2, none⟩ (.slice (some ⟨g, 0, none⟩) n cap')).heap[w.heap.size + 1]? = some (.cells #[.int .i64 0, .int .i64 0, .slice none 0 0] 24)) := Lib.hid (grown_block (grownBy_setCell3 _ _ _ _) R1.out (by intro e; have := Option.some.inj e; omega)); have B2 := Lib.hid (B1.out.grown hg (by simp; omega) (fun k hk => by have h1 : w.heap.size + 1 + 1 = k := Option.some.inj hk; omega)); have c2 := (cell_of_row _ _ 2 _ _ (0, 0) R0.out).trans rfl; have f2 := frozen_of_row _ _ 2 _ _ R0.out; clear hown hg hnil hv0 hown'))
      | (with_reducible refine wpList_load_row rfl 24 _ rfl w.heap.size rfl 24 #[.int .i64 W, .int .i64 H, .slice (some ⟨g, 0, none⟩) n cap'] (0, 0) _ (heap_setCell_same _ _ _ _ _ _ R0.out) Tryz.underlying24 rfl (imgSize3 _ _ _) ?_)
      | (with_reducible refine wpList_store_row rfl 24 _ _ rfl (w.heap.size + 1) _ rfl rfl 24 _ R2.out (imgSize3 _ _ _) (imgSz _ _ _ _ _ _) (imgOne _ _ _ _ _) ?_))
    refine bodyPost_ret (results_cell_row (p := 2) (ty := 24) rfl _ _ (w.heap.size + 1) 24 _ (0, 0) _ rfl (setRow_heap _ _ _ _ _ _ R2.out) Tryz.underlying24 rfl imgSize) rfl ?_
    have hr1 := (Hown.out.kept (grownBy_setCell3 w1 w.heap.size 2 (.slice (some ⟨g, 0, none⟩) n cap')) (.inr (by intro e; have h1 : g = w.heap.size := Option.some.inj e; omega))).kept (grownBy_setRow _ (w.heap.size + 1) #[.int .i64 W, .int .i64 H, .slice (some ⟨g, 0, none⟩) n cap']) (.inr (by intro e; have h1 : g = w.heap.size + 1 := Option.some.inj e; omega))
    have hb1 := below_setRow (B2.out.setCell (p := ⟨w.heap.size, 2, none⟩) (Nat.le_refl _) (.slice (some ⟨g, 0, none⟩) n cap')) (by omega : w.heap.size ≤ w.heap.size + 1) #[.int .i64 W, .int .i64 H, .slice (some ⟨g, 0, none⟩) n cap']
    rw [← HL.out] at hr1 hb1 ⊢
    exact ⟨g, cap', rfl, by omega, World.ownsRow.mono hr1 (by omega), hb1⟩
set_option maxRecDepth 100000 in
set_option maxHeartbeats 1000000 in
theorem ownImg_any (W H : Int) (p : Option Addr) (n cap : Nat) (l : List Int) (w : World) (h : Sl .u16 w p n cap l) (hr : n * 2 ≤ 140737488355328) :
    Calls Tryz.prog 6 #[.agg #[.int .i64 W, .int .i64 H, .slice p n cap]] w (ImgOut w.heap.size W H l w) := by
  have B0 := Lib.hid (((Below.refl w.heap.size w).alloc (Nat.le_refl _) (.cells #[.int .i64 W, .int .i64 H, .slice p n cap] 24)).alloc (by simp) (.cells #[.int .i64 0, .int .i64 0, .slice none 0 0] 24))
  obtain ⟨q0, q1⟩ := heap2 w (.cells #[.int .i64 W, .int .i64 H, .slice p n cap] 24) (.cells #[.int .i64 0, .int .i64 0, .slice none 0 0] 24)
  have Q1 := Lib.hid q1
  have HS := Lib.hid (h.below B0.out)
  clear h q0 q1
  go_enter Tryz.func6, Tryz.ntmps6
  go_wp2_with fail
  refine (copy_any W H p n cap l _ HS.out hr).mono ?_
  rintro e w1 ⟨g, cap1, rfl, hg, hown, hb⟩
  have Q2 := Lib.hid ((hb.block _ (block_lt Q1.out)).trans Q1.out)
  have B2 := Lib.hid (B0.out.trans (hb.mono B0.out.size))
  have Hown := Lib.hid hown
  simp only [World.size_alloc] at hg
  clear hb hown
  go_wp2_with (with_reducible refine wpList_store_row rfl 24 _ _ rfl (w.heap.size + 1) _ rfl rfl 24 _ Q2.out (imgSize3 _ _ _) (imgSz _ _ _ _ _ _) (imgOne _ _ _ _ _) ?_)
  refine bodyPost_ret (results_cell_row (p := 2) (ty := 24) rfl _ _ (w.heap.size + 1) 24 _ (0, 0) _ rfl (setRow_heap _ _ _ _ _ _ Q2.out) Tryz.underlying24 rfl imgSize) rfl ?_
  exact ⟨g, cap1, rfl, by omega, World.ownsRow.mono (World.ownsRow.kept Hown.out (grownBy_setRow _ _ _) (.inr (by intro e; have h1 : g = w.heap.size + 1 := Option.some.inj e; omega))) (by simp; omega), below_setRow B2.out (by omega) _⟩
end Go.Proofs.YtioeifbobhdccaaGreatDoor
