/- The laws' 'wakes'. -/
import Derived.Test.YtdemndjenlhahaaPt10
import Derived.Test.YtdemndjenlhahaaPt11
namespace Go.Proofs.Ytdemndjenlhahaa
open Go.RowKit Go.Sort Go.Shelf

theorem levels_res : oneRes ⟨#[108, 101, 118, 101, 108, 115]⟩ [0, 32768] ⟨16384, 0, 0, 7⟩ 0 0 1 = ⟨32767, 0, 0, 7⟩ := by kernel_rfl
theorem levels_err : oneErr ⟨#[108, 101, 118, 101, 108, 115]⟩ [0, 32768] 0 0 1 = 0 := by decide +kernel
theorem gamma_err : oneErr ⟨#[103, 97, 109, 109, 97]⟩ [2] 0 0 1 = 0 := by decide +kernel
theorem gamma_res : (oneRes ⟨#[103, 97, 109, 109, 97]⟩ [2] ⟨0, 16384, 0, 0⟩ 0 0 1).g = 32767 := by
  have hi : pm.idx ⟨#[103, 97, 109, 109, 97]⟩ = some 9 := by decide +kernel
  unfold oneRes
  rw [if_pos gamma_err, hi]
  have h1 : pm.raw 9 [2] 16384 = pm.root (16384 * 65535) := by simp [pm.raw, pm.arg]
  have h2 : (32767 : Int) = pm.root (16384 * 65535) := pm.root_eq (by omega) (by omega) (by omega) (by omega) (by omega)
  have h3 : (pm.res 9 [2] ⟨0, 16384, 0, 0⟩ 0 0 1).g = tm.clampTo (pm.raw 9 [2] 16384) 65535 := by simp [pm.res, pm.all, pm.smp]
  simp only
  rw [h3, h1, ← h2]
  rfl
theorem add_err : pm.errOf ⟨#[97, 100, 100]⟩ [5] = 0 := by decide +kernel
theorem add_err2 : pm.errOf ⟨#[97, 100, 100]⟩ [] = 190 := by decide +kernel
theorem fly_err : pm.errOf ⟨#[102, 108, 121]⟩ [] = 8 := by decide +kernel

/-- a literal list of integers in new memory -/
theorem sl_new (w : World) (l : List Int) (t : TypeId) (g : Nat) (hg : w.heap.size = g) (hm : l.length ≤ maxLen) (hw : ∀ x ∈ l, (Lit.int .i64 x).wf = true) : Sl .i64 (w.alloc (.cells (ints l) t)) (some ⟨g, 0, none⟩) l.length l.length l := by
  subst hg
  refine ⟨rfl, Nat.le_refl _, hm, (fun h => nomatch h), hw, .inr ⟨_, _, rfl, fun i hi => ?_⟩⟩
  rw [Nat.zero_add]
  exact ints_cell (heap_alloc_last w _) i hi

def WakesPost (w : World) (e : Ending) (w' : World) : Prop := e = .returned (.bool true) ∧ Below w.heap.size w w'

set_option maxRecDepth 100000 in
set_option maxHeartbeats 1600000 in
theorem wakes_any (w : World) : Calls Try.prog 8 #[] w (WakesPost w) := by
  go_enter Try.func8, Try.ntmps8
  go_wp2_with fail
  refine (one_any _ _ _ _ [0, 32768] ⟨16384, 0, 0, 7⟩ 0 0 1 _ (sl_new w [0, 32768] _ _ rfl (by decide) (by decide)) (by unfold C4.ok; simp) (by decide +kernel)).mono ?_
  rintro e w1 ⟨rfl, hb1⟩
  rw [levels_res, levels_err]
  have B1 := Lib.hid (((Below.refl w.heap.size w).alloc (Nat.le_refl _) (.cells (ints [0, 32768]) 3)).trans (hb1.mono (by simp)))
  clear hb1
  simp only [C4.val]
  go_wp2_with (with_reducible refine wpList_store_row rfl 33 _ _ rfl w1.heap.size _ rfl rfl 33 _ (heap_alloc_last _ _) (colSize4 _ _ _ _) (colSz _ _ _ _ _ _ _ _) (colOne _ _ _ _) ?_; rw [World.setRow_alloc_new])
  have C1 := Lib.hid (heap_alloc_last w1 (.cells #[.int .u16 32767, .int .u16 0, .int .u16 0, .int .u16 7] 33))
  have B2 := Lib.hid ((Below.refl w1.heap.size w1).alloc (Nat.le_refl _) (.cells #[.int .u16 32767, .int .u16 0, .int .u16 0, .int .u16 7] 33))
  have Z2 : Hid ((w1.alloc (.cells #[.int .u16 32767, .int .u16 0, .int .u16 0, .int .u16 7] 33)).heap.size = w1.heap.size + 1) := Lib.hid (by simp)
  generalize w1.alloc (.cells #[.int .u16 32767, .int .u16 0, .int .u16 0, .int .u16 7] 33) = w2 at *
  refine (one_any _ _ _ _ [2] ⟨0, 16384, 0, 0⟩ 0 0 1 _ (sl_new w2 [2] _ _ Z2.out (by decide) (by decide)) (by unfold C4.ok; simp) (by decide +kernel)).mono ?_
  rintro e w3 ⟨rfl, hb3⟩
  rw [gamma_err]
  have hg := gamma_res
  generalize oneRes ⟨#[103, 97, 109, 109, 97]⟩ [2] ⟨0, 16384, 0, 0⟩ 0 0 1 = rc at *
  obtain ⟨rr, rg, rb, ra⟩ := rc
  simp only at hg
  subst hg
  simp only [C4.val]
  have hb3' := ((Below.refl w2.heap.size w2).alloc (Nat.le_refl _) (.cells (ints [2]) 3)).trans (hb3.mono (by simp))
  have B3 := Lib.hid (B1.out.trans ((B2.out.trans (hb3'.mono B2.out.size)).mono B1.out.size))
  have C3 := Lib.hid ((hb3'.block _ (block_lt C1.out)).trans C1.out)
  have C4' := Lib.hid (((Below.refl w3.heap.size w3).alloc (Nat.le_refl _) (.cells #[.int .u16 rr, .int .u16 32767, .int .u16 rb, .int .u16 ra] 33)).block _ (block_lt C3.out) |>.trans C3.out)
  clear hb3 hb3'
  have k0 := ((cell_of_row _ _ 0 _ _ (0, 0) C4'.out).trans rfl)
  have k3 := ((cell_of_row _ _ 3 _ _ (0, 0) C4'.out).trans rfl)
  go_wp2_with (with_reducible refine wpList_store_row rfl 33 _ _ rfl w3.heap.size _ rfl rfl 33 _ (heap_alloc_last _ _) (colSize4 _ _ _ _) (colSz _ _ _ _ _ _ _ _) (colOne _ _ _ _) ?_; rw [World.setRow_alloc_new])
  have B4 := Lib.hid (B3.out.alloc B3.out.size (.cells #[.int .u16 rr, .int .u16 32767, .int .u16 rb, .int .u16 ra] 33))
  clear k0 k3
  refine (names_any _).mono ?_
  rintro e w5 ⟨v5, rfl, ⟨g5, cap5, rfl, _, _⟩, hb5⟩
  have B5 := Lib.hid (B4.out.trans (hb5.mono B4.out.size))
  clear hb5
  go_wp2_with fail
  refine (check_any _ _ _ _ [5] _ (sl_new w5 [5] _ _ rfl (by decide) (by decide))).mono ?_
  rintro e w6 ⟨rfl, hb6⟩
  have B6 := Lib.hid (B5.out.trans (((Below.refl w5.heap.size w5).alloc (Nat.le_refl _) (.cells (ints [5]) 3)).trans (hb6.mono (by simp)) |>.mono B5.out.size))
  clear hb6
  rw [add_err]
  go_wp2_with fail
  refine (check_any _ _ _ _ [] _ Sl.nil).mono ?_
  rintro e w7 ⟨rfl, hb7⟩
  have B7 := Lib.hid (B6.out.trans (hb7.mono B6.out.size))
  clear hb7
  rw [add_err2]
  go_wp2_with fail
  refine (check_any _ _ _ _ [] _ Sl.nil).mono ?_
  rintro e w8 ⟨rfl, hb8⟩
  have B8 := Lib.hid (B7.out.trans (hb8.mono B7.out.size))
  clear hb8
  rw [fly_err]
  go_wp2_with fail
  go_ret
  exact ⟨rfl, B8.out⟩
end Go.Proofs.Ytdemndjenlhahaa
