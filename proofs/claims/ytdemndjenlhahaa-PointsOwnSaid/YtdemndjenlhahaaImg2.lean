/- Images: copies. -/
import Derived.Test.YtdemndjenlhahaaImg
import Derived.Test.YtdemndjenlhahaaPt9
import Derived.Laws.AppendOwnNone
import Derived.Deep.Onto
namespace Go.Proofs.Ytdemndjenlhahaa
open Go.RowKit

theorem infoU16 : (Try.prog.info? 31).map (fun i => (i.zero, i.size, i.bytes)) = some (some (.int .u16 0), 1, 2) := by kernel_rfl
theorem imgSize : (Try.prog.info? 41).map (·.size) = some 3 := by kernel_rfl
theorem imgSz (a b c a' b' c' : Value) : (#[a, b, c] : Array Value).size = (#[a', b', c'] : Array Value).size := rfl
theorem imgSize3 (a b c : Value) : (Try.prog.info? 41).map (·.size) = some (#[a, b, c] : Array Value).size := imgSize
theorem imgOne (W H : Int) (p : Option Addr) (n cap : Nat) : (#[.int .i64 W, .int .i64 H, .slice p n cap] : Array Value).all (·.oneCell') = true := by simp [Value.oneCell']

/-- an image whose samples lie in new memory -/
def ImgOut (base : Nat) (W H : Int) (l : List Int) (w : World) (e : Ending) (w' : World) : Prop :=
  ∃ g cap, e = .returned (.agg #[.int .i64 W, .int .i64 H, .slice (some ⟨g, 0, none⟩) l.length cap]) ∧ base ≤ g ∧ w'.ownsRow base 31 1 (.slice (some ⟨g, 0, none⟩) l.length cap) l.length (l.map (Value.int .u16)) ∧ Below w.heap.size w w'


theorem grownBy_setRow (w : World) (b : Nat) (cs : Array Value) : w.grownBy (w.setRow b cs) (some b) := ⟨rfl, rfl, rfl, by simp [World.setRow], fun k hk hne => setRow_other w b k cs (by rintro rfl; exact hne rfl)⟩
theorem grownBy_setCell3 (w : World) (b i : Nat) (v : Value) : w.grownBy (w.setCell ⟨b, i, none⟩ v) (some b) := ⟨rfl, rfl, rfl, by simp [World.setCell], fun k hk hne => Below.heap_setCell w _ v k (by rintro rfl; exact hne rfl)⟩
theorem grown_block {w w1 : World} {row : Option Nat} {g : Nat} {o : Obj} (h : w.grownBy w1 row) (hg : w.heap[g]? = some o) (hne : some g ≠ row) : w1.heap[g]? = some o := (h.block g (block_lt hg) hne).trans hg

set_option maxRecDepth 100000 in
set_option maxHeartbeats 1000000 in
theorem copy_any (W H : Int) (p : Option Addr) (n cap : Nat) (l : List Int) (w : World) (h : Sl .u16 w p n cap l) (hr : n * 2 ≤ 140737488355328) :
    Calls Try.prog 27 #[.agg #[.int .i64 W, .int .i64 H, .slice p n cap]] w (ImgOut w.heap.size W H l w) := by
  obtain ⟨i0, hi, hz0, hz1, hz2⟩ := info_parts infoU16
  have B0 := Lib.hid (((Below.refl w.heap.size w).alloc (Nat.le_refl _) (.cells #[.int .i64 W, .int .i64 H, .slice p n cap] 41)).alloc (by simp) (.cells #[.int .i64 0, .int .i64 0, .slice none 0 0] 41))
  obtain ⟨q0, q1⟩ := heap2 w (.cells #[.int .i64 W, .int .i64 H, .slice p n cap] 41) (.cells #[.int .i64 0, .int .i64 0, .slice none 0 0] 41)
  have Q0 := Lib.hid q0
  have Q1 := Lib.hid q1
  have S2 : Hid (((w.alloc (.cells #[.int .i64 W, .int .i64 H, .slice p n cap] 41)).alloc (.cells #[.int .i64 0, .int .i64 0, .slice none 0 0] 41)).heap.size = w.heap.size + 1 + 1) := Lib.hid (by simp)
  have HL := Lib.hid h.len
  have HS := Lib.hid (h.below B0.out)
  have HC0 := Lib.hid h.bare
  have hfit := h.fits
  have hlit := World.ownsRow_lit (e := 31) (size := 1) ((w.alloc (.cells #[.int .i64 W, .int .i64 H, .slice p n cap] 41)).alloc (.cells #[.int .i64 0, .int .i64 0, .slice none 0 0] 41)) #[] 0 (Nat.le_refl _) (by simp) rfl
  rw [S2.out] at hlit
  have Hlit := Lib.hid hlit
  clear h q0 q1 hlit
  cases p with
  | none =>
    obtain rfl : cap = 0 := HC0.out rfl
    obtain rfl : n = 0 := by omega
    obtain rfl : l = [] := List.length_eq_zero_iff.1 HL.out
    have P0 := Lib.hid ((Below.heap_alloc _ (.cells #[] 31) _ (block_lt Q0.out)).trans Q0.out)
    have P1 := Lib.hid ((Below.heap_alloc _ (.cells #[] 31) _ (block_lt Q1.out)).trans Q1.out)
    have B1 := Lib.hid (B0.out.alloc B0.out.size (.cells #[] 31))
    obtain ⟨w1, hw1⟩ : ∃ w1, ((w.alloc (.cells #[.int .i64 W, .int .i64 H, .slice none 0 0] 41)).alloc (.cells #[.int .i64 0, .int .i64 0, .slice none 0 0] 41)).alloc (.cells #[] 31) = w1 := ⟨_, rfl⟩
    have HW := Lib.hid hw1
    rw [hw1] at P0 P1 B1 Hlit
    clear hw1
    have R2 : Hid ((w1.setCell ⟨w.heap.size, 2, none⟩ (.slice (some ⟨w.heap.size + 1 + 1, 0, none⟩) 0 0)).heap[w.heap.size + 1]? = some (.cells #[.int .i64 0, .int .i64 0, .slice none 0 0] 41)) := Lib.hid (grown_block (grownBy_setCell3 _ _ _ _) P1.out (by intro e; have := Option.some.inj e; omega))
    have c2 := (cell_of_row _ _ 2 _ _ (0, 0) P0.out).trans rfl
    have f2 := frozen_of_row _ _ 2 _ _ P0.out
    go_enter Try.func27, Try.ntmps27
    go_wp2_with (first
      | (at_builtin; rw [HW.out]; go_must (refine wpList_append_own_none rfl _ _ 39 rfl (w.heap.size + 1 + 1) 31 i0 1 Try.underlying39 hi _ 0 [] rfl Hlit.out rfl ?_))
      | (with_reducible refine wpList_load_row rfl 41 _ rfl w.heap.size rfl 41 #[.int .i64 W, .int .i64 H, .slice (some ⟨w.heap.size + 1 + 1, 0, none⟩) 0 0] (0, 0) _ (heap_setCell_same _ _ _ _ _ _ P0.out) Try.underlying41 rfl (imgSize3 _ _ _) ?_)
      | (with_reducible refine wpList_store_row rfl 41 _ _ rfl (w.heap.size + 1) _ rfl rfl 41 _ R2.out (imgSize3 _ _ _) (imgSz _ _ _ _ _ _) (imgOne _ _ _ _ _) ?_))
    refine bodyPost_ret (results_cell_row (p := 2) (ty := 41) rfl _ _ (w.heap.size + 1) 41 _ (0, 0) _ rfl (setRow_heap _ _ _ _ _ _ R2.out) Try.underlying41 rfl imgSize) rfl ?_
    have hr1 := (Hlit.out.kept (grownBy_setCell3 w1 w.heap.size 2 (.slice (some ⟨w.heap.size + 1 + 1, 0, none⟩) 0 0)) (.inr (by intro e; have h1 : w.heap.size + 1 + 1 = w.heap.size := Option.some.inj e; omega))).kept (grownBy_setRow _ (w.heap.size + 1) #[.int .i64 W, .int .i64 H, .slice (some ⟨w.heap.size + 1 + 1, 0, none⟩) 0 0]) (.inr (by intro e; have h1 : w.heap.size + 1 + 1 = w.heap.size + 1 := Option.some.inj e; omega))
    have hb1 := below_setRow (B1.out.setCell (p := ⟨w.heap.size, 2, none⟩) (Nat.le_refl _) (.slice (some ⟨w.heap.size + 1 + 1, 0, none⟩) 0 0)) (by omega : w.heap.size ≤ w.heap.size + 1) #[.int .i64 W, .int .i64 H, .slice (some ⟨w.heap.size + 1 + 1, 0, none⟩) 0 0]
    exact ⟨_, 0, rfl, by omega, World.ownsRow.mono hr1 (by omega), hb1⟩
  | some ad =>
    have HN := Lib.hid (HS.out.below ((Below.refl _ _).alloc (Nat.le_refl _) (.cells #[] 31))).at_news
    have P0 := Lib.hid ((Below.heap_alloc _ (.cells #[] 31) _ (block_lt Q0.out)).trans Q0.out)
    have P1 := Lib.hid ((Below.heap_alloc _ (.cells #[] 31) _ (block_lt Q1.out)).trans Q1.out)
    have B1 := Lib.hid (B0.out.alloc B0.out.size (.cells #[] 31))
    go_enter Try.func27, Try.ntmps27
    go_wp2_with (first
      | (at_builtin; go_must (refine wpList_append_own _ rfl _ _ 39 rfl (w.heap.size + 1 + 1) 31 i0 (.int .u16 0) 1 2 Try.underlying39 hi hz0 hz1 hz2 rfl (by decide) (.slice (some ⟨w.heap.size + 1 + 1, 0, none⟩) 0 0) 0 _ rfl Hlit.out ad n cap (l.map (Value.int .u16)) rfl (by rw [List.length_map, HL.out, Nat.mul_one]) HN.out (ints_oneCell _ _) (by unfold maxLen; omega) (by omega) (by simp) ?_; intro v' w1 hown hg hnil; have hv0 : ¬ v' = .slice none 0 0 := (fun e => absurd (hnil.1 e) (by simp)); rw [show (0 : Nat) + n = n from Nat.zero_add n] at hown; obtain ⟨g, cap', rfl, hge, hown'⟩ := fresh_of (base := w.heap.size + 1 + 1) (by simpa using hown) hv0; have Hown := Lib.hid hown'; have R0 := Lib.hid (grown_block hg P0.out (by intro e; have h1 : w.heap.size = w.heap.size + 1 + 1 := Option.some.inj e; omega)); have R1 := Lib.hid (grown_block hg P1.out (by intro e; have h1 : w.heap.size + 1 = w.heap.size + 1 + 1 := Option.some.inj e; omega)); have R2 : Hid ((w1.setCell ⟨w.heap.size, 2, none⟩ (.slice (some ⟨g, 0, none⟩) n cap')).heap[w.heap.size + 1]? = some (.cells #[.int .i64 0, .int .i64 0, .slice none 0 0] 41)) := Lib.hid (grown_block (grownBy_setCell3 _ _ _ _) R1.out (by intro e; have := Option.some.inj e; omega)); have B2 := Lib.hid (B1.out.grown hg (by simp; omega) (fun k hk => by have h1 : w.heap.size + 1 + 1 = k := Option.some.inj hk; omega)); have c2 := (cell_of_row _ _ 2 _ _ (0, 0) R0.out).trans rfl; have f2 := frozen_of_row _ _ 2 _ _ R0.out; clear hown hg hnil hv0 hown'))
      | (with_reducible refine wpList_load_row rfl 41 _ rfl w.heap.size rfl 41 #[.int .i64 W, .int .i64 H, .slice (some ⟨g, 0, none⟩) n cap'] (0, 0) _ (heap_setCell_same _ _ _ _ _ _ R0.out) Try.underlying41 rfl (imgSize3 _ _ _) ?_)
      | (with_reducible refine wpList_store_row rfl 41 _ _ rfl (w.heap.size + 1) _ rfl rfl 41 _ R2.out (imgSize3 _ _ _) (imgSz _ _ _ _ _ _) (imgOne _ _ _ _ _) ?_))
    refine bodyPost_ret (results_cell_row (p := 2) (ty := 41) rfl _ _ (w.heap.size + 1) 41 _ (0, 0) _ rfl (setRow_heap _ _ _ _ _ _ R2.out) Try.underlying41 rfl imgSize) rfl ?_
    have hr1 := (Hown.out.kept (grownBy_setCell3 w1 w.heap.size 2 (.slice (some ⟨g, 0, none⟩) n cap')) (.inr (by intro e; have h1 : g = w.heap.size := Option.some.inj e; omega))).kept (grownBy_setRow _ (w.heap.size + 1) #[.int .i64 W, .int .i64 H, .slice (some ⟨g, 0, none⟩) n cap']) (.inr (by intro e; have h1 : g = w.heap.size + 1 := Option.some.inj e; omega))
    have hb1 := below_setRow (B2.out.setCell (p := ⟨w.heap.size, 2, none⟩) (Nat.le_refl _) (.slice (some ⟨g, 0, none⟩) n cap')) (by omega : w.heap.size ≤ w.heap.size + 1) #[.int .i64 W, .int .i64 H, .slice (some ⟨g, 0, none⟩) n cap']
    rw [← HL.out] at hr1 hb1 ⊢
    exact ⟨g, cap', rfl, by omega, World.ownsRow.mono hr1 (by omega), hb1⟩
end Go.Proofs.Ytdemndjenlhahaa
