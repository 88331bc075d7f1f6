/- The works that are functions themselves. -/
import Derived.Test.YtdemndjenlhahaaPt5
namespace Go.Proofs.Ytdemndjenlhahaa
open Go.RowKit Go.Sort Go.Shelf

/-- the places that a work may be asked at -/
def PlaceOk (k : Nat) (x y wd : Int) : Prop := k < 18 ∨ (0 ≤ x ∧ x < wd ∧ wd ≤ 65536 ∧ 0 ≤ y ∧ y ≤ 65536)
def DirF (f : FuncId) (k : Nat) : Prop := ∀ (a : List Int) (c : C4) (x y wd : Int) (p : Option Addr) (n cap : Nat) (w : World), pm.okA k a → c.ok → PlaceOk k x y wd → Sl .i64 w p n cap a →
  Calls Try.prog f #[.slice p n cap, .agg #[.int .u16 c.r, .int .u16 c.g, .int .u16 c.b, .int .u16 c.a], .agg #[.int .i64 x, .int .i64 y, .int .i64 wd]] w fun e w' => e = .returned (pm.res k a c x y wd).val ∧ Below w.heap.size w w'

theorem colSz (a b c d a' b' c' d' : Value) : (#[a, b, c, d] : Array Value).size = (#[a', b', c', d'] : Array Value).size := rfl
theorem colSize4 (a b c d : Value) : (Try.prog.info? 33).map (·.size) = some (#[a, b, c, d] : Array Value).size := colSize
theorem colOne (r g b a : Int) : (#[.int .u16 r, .int .u16 g, .int .u16 b, .int .u16 a] : Array Value).all (·.oneCell') = true := by simp [Value.oneCell']
theorem heap5 (w : World) (A B C D E : Obj) : (((((w.alloc A).alloc B).alloc C).alloc D).alloc E).heap[w.heap.size]? = some A ∧ (((((w.alloc A).alloc B).alloc C).alloc D).alloc E).heap[w.heap.size + 1 + 1]? = some C ∧ (((((w.alloc A).alloc B).alloc C).alloc D).alloc E).heap[w.heap.size + 1 + 1 + 1]? = some D ∧ (((((w.alloc A).alloc B).alloc C).alloc D).alloc E).heap[w.heap.size + 1 + 1 + 1 + 1]? = some E := by
  obtain ⟨a, _, c, d⟩ := heap4 w A B C D
  refine ⟨(Below.heap_alloc _ _ _ (block_lt a)).trans a, (Below.heap_alloc _ _ _ (block_lt c)).trans c, (Below.heap_alloc _ _ _ (block_lt d)).trans d, ?_⟩
  have := heap_alloc_last ((((w.alloc A).alloc B).alloc C).alloc D) E
  simpa using this
theorem below5 (w : World) (X Y Z U V : Obj) : Below w.heap.size w (((((w.alloc X).alloc Y).alloc Z).alloc U).alloc V) :=
  (below4 w X Y Z U).alloc (by simp; omega) _

set_option maxRecDepth 100000 in
theorem alike_any (l : Int) (c : C4) (w : World) : Calls Try.prog 35 #[.int .u16 l, .agg #[.int .u16 c.r, .int .u16 c.g, .int .u16 c.b, .int .u16 c.a]] w fun e w' => e = .returned (.agg #[.int .u16 l, .int .u16 l, .int .u16 l, .int .u16 c.a]) ∧ Below w.heap.size w w' := by
  go_enter Try.func35, Try.ntmps35
  go_wp2_with fail
  exact bodyPost_ret (v := .agg #[.int .u16 l, .int .u16 l, .int .u16 l, .int .u16 c.a]) (by simp [results, Try.results35, go_sem]) rfl ⟨rfl, ((Below.refl _ _).alloc (Nat.le_refl _) _).alloc (by simp) _⟩

set_option maxRecDepth 100000 in
theorem dir1 : DirF 34 1 := by
  intro a c x y wd p n cap w h hc _ hA
  clear h hA
  have HC := Lib.hid hc
  clear hc
  go_enter Try.func34, Try.ntmps34
  go_wp2_with fail
  have HB := Lib.hid (below3 w (.cells #[.int .u16 c.r, .int .u16 c.g, .int .u16 c.b, .int .u16 c.a] 33) (.cells #[.int .i64 x, .int .i64 y, .int .i64 wd] 64) (.cells #[.int .u16 0, .int .u16 0, .int .u16 0, .int .u16 0] 33))
  obtain ⟨q1, q2, q3⟩ := heap3 w (.cells #[.int .u16 c.r, .int .u16 c.g, .int .u16 c.b, .int .u16 c.a] 33) (.cells #[.int .i64 x, .int .i64 y, .int .i64 wd] 64) (.cells #[.int .u16 0, .int .u16 0, .int .u16 0, .int .u16 0] 33)
  generalize (((w.alloc (.cells #[.int .u16 c.r, .int .u16 c.g, .int .u16 c.b, .int .u16 c.a] 33)).alloc (.cells #[.int .i64 x, .int .i64 y, .int .i64 wd] 64)).alloc (.cells #[.int .u16 0, .int .u16 0, .int .u16 0, .int .u16 0] 33)) = w1 at *
  have Q1 := Lib.hid q1
  have Q3 := Lib.hid q3
  clear q1 q2 q3
  have k0 := cell_regrown ((cell_of_row w1 _ 0 _ _ (0, 0) Q1.out).trans rfl)
  have k1 := cell_regrown ((cell_of_row w1 _ 1 _ _ (0, 0) Q1.out).trans rfl)
  have k2 := cell_regrown ((cell_of_row w1 _ 2 _ _ (0, 0) Q1.out).trans rfl)
  have k3 := cell_regrown ((cell_of_row w1 _ 3 _ _ (0, 0) Q1.out).trans rfl)
  have CL : Hid (∀ d os, Calls Try.prog 36 #[.agg #[.int .u16 c.r, .int .u16 c.g, .int .u16 c.b, .int .u16 c.a]] (grow (redrawn w1 d) os) fun e w'' => e = .returned (.int .u16 (tm.luma c.r c.g c.b)) ∧ ∃ p : Regrown, w'' = grow (redrawn w1 p.d) p.os) :=
    Lib.hid (fun d os => Calls.regrown_of (luma_any _ _ _ _ _ HC.out.1 HC.out.2.1 HC.out.2.2.1))
  have CK : Hid (∀ l d os, Calls Try.prog 35 #[.int .u16 l, .agg #[.int .u16 c.r, .int .u16 c.g, .int .u16 c.b, .int .u16 c.a]] (grow (redrawn w1 d) os) fun e w'' => e = .returned (.agg #[.int .u16 l, .int .u16 l, .int .u16 l, .int .u16 c.a]) ∧ ∃ p : Regrown, w'' = grow (redrawn w1 p.d) p.os) :=
    Lib.hid (fun l d os => Calls.regrown_of (alike_any l c _))
  refine wp_region_quiet_tail 4 (by kernel_rfl) (by kernel_rfl) ?_
  simp only [List.take_succ_cons, List.take_zero, List.drop_succ_cons, List.drop_zero]
  repeat (go_big_quiet_step (((first | (go_at_call 36; exact CL.out _ _) | (go_at_call 35; exact CK.out _ _ _)))))
  refine wpQuiet_nil ?_
  intro _ hw'
  obtain ⟨⟨dq, osq⟩, hw''⟩ := hw'
  subst hw''
  have hb := below_regrown w1 dq osq
  clear k0 k1 k2 k3 
  generalize grow (redrawn w1 dq) osq = w4 at *
  have Q4 := Lib.hid ((hb.block _ (block_lt Q3.out)).trans Q3.out)
  refine wpList_store_row rfl 33 _ _ rfl (w.heap.size + 1 + 1) _ rfl rfl 33 _ Q4.out (colSize4 _ _ _ _) (colSz _ _ _ _ _ _ _ _) (colOne _ _ _ _) ?_
  go_wp2_with fail
  exact bodyPost_ret (v := (pm.res 1 a c x y wd).val) (results_cell_row (p := 6) (ty := 33) rfl _ _ (w.heap.size + 1 + 1) 33 _ (0, 0) _ rfl (setRow_heap w4 _ _ _ _ _ Q4.out) Try.underlying33 rfl colSize) rfl ⟨rfl, below_setRow (HB.out.trans (hb.mono HB.out.size)) (by omega) _⟩

set_option maxRecDepth 100000 in
theorem dir2 : DirF 37 2 := by
  intro a c x y wd p n cap w h hc _ hA
  obtain ⟨t, rfl, ht⟩ := fit1 (show pm.fitL a [(0, 65535)] from h.1)
  obtain ⟨b, off, rfl, rfl, c0⟩ := args1 hA
  have HC := Lib.hid hc
  have hlr := tm.luma_range hc.1 hc.2.1 hc.2.2.1
  have HV : Hid (pm.res 2 [t] c x y wd = if tm.luma c.r c.g c.b < t then ⟨0, 0, 0, c.a⟩ else ⟨65535, 65535, 65535, c.a⟩) := Lib.hid rfl
  clear hc hA h
  go_enter Try.func37, Try.ntmps37
  go_wp2_with fail
  have HB := Lib.hid (below3 w (.cells #[.int .u16 c.r, .int .u16 c.g, .int .u16 c.b, .int .u16 c.a] 33) (.cells #[.int .i64 x, .int .i64 y, .int .i64 wd] 64) (.cells #[.int .u16 0, .int .u16 0, .int .u16 0, .int .u16 0] 33))
  obtain ⟨q1, q2, q3⟩ := heap3 w (.cells #[.int .u16 c.r, .int .u16 c.g, .int .u16 c.b, .int .u16 c.a] 33) (.cells #[.int .i64 x, .int .i64 y, .int .i64 wd] 64) (.cells #[.int .u16 0, .int .u16 0, .int .u16 0, .int .u16 0] 33)
  generalize (((w.alloc (.cells #[.int .u16 c.r, .int .u16 c.g, .int .u16 c.b, .int .u16 c.a] 33)).alloc (.cells #[.int .i64 x, .int .i64 y, .int .i64 wd] 64)).alloc (.cells #[.int .u16 0, .int .u16 0, .int .u16 0, .int .u16 0] 33)) = w1 at *
  have Q1 := Lib.hid q1
  have Q3 := Lib.hid q3
  clear q1 q2 q3
  have k0 := cell_regrown ((cell_of_row w1 _ 0 _ _ (0, 0) Q1.out).trans rfl)
  have k1 := cell_regrown ((cell_of_row w1 _ 1 _ _ (0, 0) Q1.out).trans rfl)
  have k2 := cell_regrown ((cell_of_row w1 _ 2 _ _ (0, 0) Q1.out).trans rfl)
  have k3 := cell_regrown ((cell_of_row w1 _ 3 _ _ (0, 0) Q1.out).trans rfl)
  have l0 := cell_regrown (keep_cell HB.out c0)
  have CL : Hid (∀ d os, Calls Try.prog 36 #[.agg #[.int .u16 c.r, .int .u16 c.g, .int .u16 c.b, .int .u16 c.a]] (grow (redrawn w1 d) os) fun e w'' => e = .returned (.int .u16 (tm.luma c.r c.g c.b)) ∧ ∃ p : Regrown, w'' = grow (redrawn w1 p.d) p.os) :=
    Lib.hid (fun d os => Calls.regrown_of (luma_any _ _ _ _ _ HC.out.1 HC.out.2.1 HC.out.2.2.1))
  clear c0
  refine wp_region_quiet_below (by kernel_rfl) (by kernel_rfl) ?_
  repeat (go_big_quiet_step (((go_at_call 36; exact CL.out _ _))))
  refine wpQuiet_nil ?_
  intro _ hw'
  obtain ⟨⟨dq, osq⟩, hw''⟩ := hw'
  subst hw''
  have hb := below_regrown w1 dq osq
  clear k0 k1 k2 k3 l0
  generalize grow (redrawn w1 dq) osq = w2 at *
  have HB2 := Lib.hid (HB.out.trans (hb.mono HB.out.size))
  have R1 := Lib.hid ((hb.block _ (block_lt Q1.out)).trans Q1.out)
  have R3 := Lib.hid ((hb.block _ (block_lt Q3.out)).trans Q3.out)
  clear hb
  have CK : Hid (∀ l d os, Calls Try.prog 35 #[.int .u16 l, .agg #[.int .u16 c.r, .int .u16 c.g, .int .u16 c.b, .int .u16 c.a]] (grow (redrawn w2 d) os) fun e w'' => e = .returned (.agg #[.int .u16 l, .int .u16 l, .int .u16 l, .int .u16 c.a]) ∧ ∃ p : Regrown, w'' = grow (redrawn w2 p.d) p.os) :=
    Lib.hid (fun l d os => Calls.regrown_of (alike_any l c _))
  by_cases hlt : tm.luma c.r c.g c.b < t
  · have HL := Lib.hid hlt
    have k0 := ((cell_of_row w2 _ 0 _ _ (0, 0) R1.out).trans rfl)
    have k1 := ((cell_of_row w2 _ 1 _ _ (0, 0) R1.out).trans rfl)
    have k2 := ((cell_of_row w2 _ 2 _ _ (0, 0) R1.out).trans rfl)
    have k3 := ((cell_of_row w2 _ 3 _ _ (0, 0) R1.out).trans rfl)
    go_wp2_with fail
    refine (alike_any _ c _).mono ?_
    rintro e w4 ⟨rfl, hb⟩
    have Q4 := Lib.hid ((hb.block _ (block_lt R3.out)).trans R3.out)
    clear k0 k1 k2 k3
    go_wp2_with (with_reducible refine wpList_store_row rfl 33 _ _ rfl (w.heap.size + 1 + 1) _ rfl rfl 33 _ Q4.out (colSize4 _ _ _ _) (colSz _ _ _ _ _ _ _ _) (colOne _ _ _ _) ?_)
    exact bodyPost_ret (v := C4.val ⟨0, 0, 0, c.a⟩) (results_cell_row (p := 6) (ty := 33) rfl _ _ (w.heap.size + 1 + 1) 33 _ (0, 0) _ rfl (setRow_heap w4 _ _ _ _ _ Q4.out) Try.underlying33 rfl colSize) rfl ⟨by rw [HV.out, if_pos HL.out], below_setRow (HB2.out.trans (hb.mono HB2.out.size)) (by omega) _⟩
  · have HL := Lib.hid hlt
    have k0 := ((cell_of_row w2 _ 0 _ _ (0, 0) R1.out).trans rfl)
    have k1 := ((cell_of_row w2 _ 1 _ _ (0, 0) R1.out).trans rfl)
    have k2 := ((cell_of_row w2 _ 2 _ _ (0, 0) R1.out).trans rfl)
    have k3 := ((cell_of_row w2 _ 3 _ _ (0, 0) R1.out).trans rfl)
    go_wp2_with fail
    refine (alike_any _ c _).mono ?_
    rintro e w4 ⟨rfl, hb⟩
    have Q4 := Lib.hid ((hb.block _ (block_lt R3.out)).trans R3.out)
    clear k0 k1 k2 k3
    go_wp2_with (with_reducible refine wpList_store_row rfl 33 _ _ rfl (w.heap.size + 1 + 1) _ rfl rfl 33 _ Q4.out (colSize4 _ _ _ _) (colSz _ _ _ _ _ _ _ _) (colOne _ _ _ _) ?_)
    exact bodyPost_ret (v := C4.val ⟨65535, 65535, 65535, c.a⟩) (results_cell_row (p := 6) (ty := 33) rfl _ _ (w.heap.size + 1 + 1) 33 _ (0, 0) _ rfl (setRow_heap w4 _ _ _ _ _ Q4.out) Try.underlying33 rfl colSize) rfl ⟨by rw [HV.out, if_neg (by have := HL.out; omega)], below_setRow (HB2.out.trans (hb.mono HB2.out.size)) (by omega) _⟩
theorem swap_row0 (w : World) : (Instr.index 86 (.agg #[.int .i64 0, .int .i64 2, .int .i64 1, .int .i64 1, .int .i64 0, .int .i64 2, .int .i64 1, .int .i64 2, .int .i64 0, .int .i64 2, .int .i64 0, .int .i64 1, .int .i64 2, .int .i64 1, .int .i64 0]) (.int .i64 0)).run Try.prog w = .ok (.agg #[.int .i64 0, .int .i64 2, .int .i64 1]) w := by kernel_rfl
theorem swap_row1 (w : World) : (Instr.index 86 (.agg #[.int .i64 0, .int .i64 2, .int .i64 1, .int .i64 1, .int .i64 0, .int .i64 2, .int .i64 1, .int .i64 2, .int .i64 0, .int .i64 2, .int .i64 0, .int .i64 1, .int .i64 2, .int .i64 1, .int .i64 0]) (.int .i64 1)).run Try.prog w = .ok (.agg #[.int .i64 1, .int .i64 0, .int .i64 2]) w := by kernel_rfl
theorem swap_row2 (w : World) : (Instr.index 86 (.agg #[.int .i64 0, .int .i64 2, .int .i64 1, .int .i64 1, .int .i64 0, .int .i64 2, .int .i64 1, .int .i64 2, .int .i64 0, .int .i64 2, .int .i64 0, .int .i64 1, .int .i64 2, .int .i64 1, .int .i64 0]) (.int .i64 2)).run Try.prog w = .ok (.agg #[.int .i64 1, .int .i64 2, .int .i64 0]) w := by kernel_rfl
theorem swap_row3 (w : World) : (Instr.index 86 (.agg #[.int .i64 0, .int .i64 2, .int .i64 1, .int .i64 1, .int .i64 0, .int .i64 2, .int .i64 1, .int .i64 2, .int .i64 0, .int .i64 2, .int .i64 0, .int .i64 1, .int .i64 2, .int .i64 1, .int .i64 0]) (.int .i64 3)).run Try.prog w = .ok (.agg #[.int .i64 2, .int .i64 0, .int .i64 1]) w := by kernel_rfl
theorem swap_row4 (w : World) : (Instr.index 86 (.agg #[.int .i64 0, .int .i64 2, .int .i64 1, .int .i64 1, .int .i64 0, .int .i64 2, .int .i64 1, .int .i64 2, .int .i64 0, .int .i64 2, .int .i64 0, .int .i64 1, .int .i64 2, .int .i64 1, .int .i64 0]) (.int .i64 4)).run Try.prog w = .ok (.agg #[.int .i64 2, .int .i64 1, .int .i64 0]) w := by kernel_rfl

set_option maxRecDepth 100000 in
set_option maxHeartbeats 1600000 in
theorem dir10 : DirF 49 10 := by
  intro a c x y wd p n cap w h hc _ hA
  obtain ⟨t, rfl, ht⟩ := fit1 (show pm.fitL a [(1, 5)] from h.1)
  obtain ⟨b, off, rfl, rfl, c0⟩ := args1 hA
  have c4 : ∀ A B C D : Obj, ((((w.alloc A).alloc B).alloc C).alloc D).cell? ⟨b, off, none⟩ = some (.int .i64 t) := fun A B C D => keep_cell (below4 w A B C D) c0
  simp only at ht
  clear hc hA h c0
  rcases (show t = 1 ∨ t = 2 ∨ t = 3 ∨ t = 4 ∨ t = 5 by omega) with rfl | rfl | rfl | rfl | rfl
  · have X := swap_row0
    go_enter Try.func49, Try.ntmps49
    go_wp2_with fail
    have HB := Lib.hid (below5 w (.cells #[.int .u16 c.r, .int .u16 c.g, .int .u16 c.b, .int .u16 c.a] 33) (.cells #[.int .i64 x, .int .i64 y, .int .i64 wd] 64) (.cells #[.int .u16 0, .int .u16 0, .int .u16 0, .int .u16 0] 33) (.cells #[.int .u16 c.r, .int .u16 c.g, .int .u16 c.b] 84) (.cells #[.int .i64 0, .int .i64 2, .int .i64 1] 85))
    obtain ⟨q1, q3, q4, q5⟩ := heap5 w (.cells #[.int .u16 c.r, .int .u16 c.g, .int .u16 c.b, .int .u16 c.a] 33) (.cells #[.int .i64 x, .int .i64 y, .int .i64 wd] 64) (.cells #[.int .u16 0, .int .u16 0, .int .u16 0, .int .u16 0] 33) (.cells #[.int .u16 c.r, .int .u16 c.g, .int .u16 c.b] 84) (.cells #[.int .i64 0, .int .i64 2, .int .i64 1] 85)
    clear c4 X
    generalize (((((w.alloc (.cells #[.int .u16 c.r, .int .u16 c.g, .int .u16 c.b, .int .u16 c.a] 33)).alloc (.cells #[.int .i64 x, .int .i64 y, .int .i64 wd] 64)).alloc (.cells #[.int .u16 0, .int .u16 0, .int .u16 0, .int .u16 0] 33)).alloc (.cells #[.int .u16 c.r, .int .u16 c.g, .int .u16 c.b] 84)).alloc (.cells #[.int .i64 0, .int .i64 2, .int .i64 1] 85)) = w1 at *
    have Q1 := Lib.hid q1
    have Q3 := Lib.hid q3
    have V4 := Lib.hid q4
    have V5 := Lib.hid q5
    clear q1 q3 q4 q5
    have k0 := cell_regrown ((cell_of_row w1 _ 3 _ _ (0, 0) Q1.out).trans rfl)
    have m0 := cell_regrown ((cell_of_row w1 _ 0 _ _ (0, 0) V4.out).trans rfl)
    have m1 := cell_regrown ((cell_of_row w1 _ 1 _ _ (0, 0) V4.out).trans rfl)
    have m2 := cell_regrown ((cell_of_row w1 _ 2 _ _ (0, 0) V4.out).trans rfl)
    have j0 := cell_regrown ((cell_of_row w1 _ 0 _ _ (0, 0) V5.out).trans rfl)
    have j1 := cell_regrown ((cell_of_row w1 _ 1 _ _ (0, 0) V5.out).trans rfl)
    have j2 := cell_regrown ((cell_of_row w1 _ 2 _ _ (0, 0) V5.out).trans rfl)
    refine wp_region_quiet_tail 15 (by kernel_rfl) (by kernel_rfl) ?_
    simp only [List.take_succ_cons, List.take_zero, List.drop_succ_cons, List.drop_zero]
    repeat (go_big_quiet_step (fail))
    refine wpQuiet_nil ?_
    intro _ hw'
    obtain ⟨⟨dq, osq⟩, hw''⟩ := hw'
    subst hw''
    have hb := below_regrown w1 dq osq
    clear k0 m0 m1 m2 j0 j1 j2 
    generalize grow (redrawn w1 dq) osq = w4 at *
    have Q4 := Lib.hid ((hb.block _ (block_lt Q3.out)).trans Q3.out)
    refine wpList_store_row rfl 33 _ _ rfl (w.heap.size + 1 + 1) _ rfl rfl 33 _ Q4.out (colSize4 _ _ _ _) (colSz _ _ _ _ _ _ _ _) (colOne _ _ _ _) ?_
    go_wp2_with fail
    exact bodyPost_ret (v := .agg #[.int .u16 c.r, .int .u16 c.b, .int .u16 c.g, .int .u16 c.a]) (results_cell_row (p := 6) (ty := 33) rfl _ _ (w.heap.size + 1 + 1) 33 _ (0, 0) _ rfl (setRow_heap w4 _ _ _ _ _ Q4.out) Try.underlying33 rfl colSize) rfl ⟨rfl, below_setRow (HB.out.trans (hb.mono HB.out.size)) (by omega) _⟩
  · have X := swap_row1
    go_enter Try.func49, Try.ntmps49
    go_wp2_with fail
    have HB := Lib.hid (below5 w (.cells #[.int .u16 c.r, .int .u16 c.g, .int .u16 c.b, .int .u16 c.a] 33) (.cells #[.int .i64 x, .int .i64 y, .int .i64 wd] 64) (.cells #[.int .u16 0, .int .u16 0, .int .u16 0, .int .u16 0] 33) (.cells #[.int .u16 c.r, .int .u16 c.g, .int .u16 c.b] 84) (.cells #[.int .i64 1, .int .i64 0, .int .i64 2] 85))
    obtain ⟨q1, q3, q4, q5⟩ := heap5 w (.cells #[.int .u16 c.r, .int .u16 c.g, .int .u16 c.b, .int .u16 c.a] 33) (.cells #[.int .i64 x, .int .i64 y, .int .i64 wd] 64) (.cells #[.int .u16 0, .int .u16 0, .int .u16 0, .int .u16 0] 33) (.cells #[.int .u16 c.r, .int .u16 c.g, .int .u16 c.b] 84) (.cells #[.int .i64 1, .int .i64 0, .int .i64 2] 85)
    clear c4 X
    generalize (((((w.alloc (.cells #[.int .u16 c.r, .int .u16 c.g, .int .u16 c.b, .int .u16 c.a] 33)).alloc (.cells #[.int .i64 x, .int .i64 y, .int .i64 wd] 64)).alloc (.cells #[.int .u16 0, .int .u16 0, .int .u16 0, .int .u16 0] 33)).alloc (.cells #[.int .u16 c.r, .int .u16 c.g, .int .u16 c.b] 84)).alloc (.cells #[.int .i64 1, .int .i64 0, .int .i64 2] 85)) = w1 at *
    have Q1 := Lib.hid q1
    have Q3 := Lib.hid q3
    have V4 := Lib.hid q4
    have V5 := Lib.hid q5
    clear q1 q3 q4 q5
    have k0 := cell_regrown ((cell_of_row w1 _ 3 _ _ (0, 0) Q1.out).trans rfl)
    have m0 := cell_regrown ((cell_of_row w1 _ 0 _ _ (0, 0) V4.out).trans rfl)
    have m1 := cell_regrown ((cell_of_row w1 _ 1 _ _ (0, 0) V4.out).trans rfl)
    have m2 := cell_regrown ((cell_of_row w1 _ 2 _ _ (0, 0) V4.out).trans rfl)
    have j0 := cell_regrown ((cell_of_row w1 _ 0 _ _ (0, 0) V5.out).trans rfl)
    have j1 := cell_regrown ((cell_of_row w1 _ 1 _ _ (0, 0) V5.out).trans rfl)
    have j2 := cell_regrown ((cell_of_row w1 _ 2 _ _ (0, 0) V5.out).trans rfl)
    refine wp_region_quiet_tail 15 (by kernel_rfl) (by kernel_rfl) ?_
    simp only [List.take_succ_cons, List.take_zero, List.drop_succ_cons, List.drop_zero]
    repeat (go_big_quiet_step (fail))
    refine wpQuiet_nil ?_
    intro _ hw'
    obtain ⟨⟨dq, osq⟩, hw''⟩ := hw'
    subst hw''
    have hb := below_regrown w1 dq osq
    clear k0 m0 m1 m2 j0 j1 j2 
    generalize grow (redrawn w1 dq) osq = w4 at *
    have Q4 := Lib.hid ((hb.block _ (block_lt Q3.out)).trans Q3.out)
    refine wpList_store_row rfl 33 _ _ rfl (w.heap.size + 1 + 1) _ rfl rfl 33 _ Q4.out (colSize4 _ _ _ _) (colSz _ _ _ _ _ _ _ _) (colOne _ _ _ _) ?_
    go_wp2_with fail
    exact bodyPost_ret (v := .agg #[.int .u16 c.g, .int .u16 c.r, .int .u16 c.b, .int .u16 c.a]) (results_cell_row (p := 6) (ty := 33) rfl _ _ (w.heap.size + 1 + 1) 33 _ (0, 0) _ rfl (setRow_heap w4 _ _ _ _ _ Q4.out) Try.underlying33 rfl colSize) rfl ⟨rfl, below_setRow (HB.out.trans (hb.mono HB.out.size)) (by omega) _⟩
  · have X := swap_row2
    go_enter Try.func49, Try.ntmps49
    go_wp2_with fail
    have HB := Lib.hid (below5 w (.cells #[.int .u16 c.r, .int .u16 c.g, .int .u16 c.b, .int .u16 c.a] 33) (.cells #[.int .i64 x, .int .i64 y, .int .i64 wd] 64) (.cells #[.int .u16 0, .int .u16 0, .int .u16 0, .int .u16 0] 33) (.cells #[.int .u16 c.r, .int .u16 c.g, .int .u16 c.b] 84) (.cells #[.int .i64 1, .int .i64 2, .int .i64 0] 85))
    obtain ⟨q1, q3, q4, q5⟩ := heap5 w (.cells #[.int .u16 c.r, .int .u16 c.g, .int .u16 c.b, .int .u16 c.a] 33) (.cells #[.int .i64 x, .int .i64 y, .int .i64 wd] 64) (.cells #[.int .u16 0, .int .u16 0, .int .u16 0, .int .u16 0] 33) (.cells #[.int .u16 c.r, .int .u16 c.g, .int .u16 c.b] 84) (.cells #[.int .i64 1, .int .i64 2, .int .i64 0] 85)
    clear c4 X
    generalize (((((w.alloc (.cells #[.int .u16 c.r, .int .u16 c.g, .int .u16 c.b, .int .u16 c.a] 33)).alloc (.cells #[.int .i64 x, .int .i64 y, .int .i64 wd] 64)).alloc (.cells #[.int .u16 0, .int .u16 0, .int .u16 0, .int .u16 0] 33)).alloc (.cells #[.int .u16 c.r, .int .u16 c.g, .int .u16 c.b] 84)).alloc (.cells #[.int .i64 1, .int .i64 2, .int .i64 0] 85)) = w1 at *
    have Q1 := Lib.hid q1
    have Q3 := Lib.hid q3
    have V4 := Lib.hid q4
    have V5 := Lib.hid q5
    clear q1 q3 q4 q5
    have k0 := cell_regrown ((cell_of_row w1 _ 3 _ _ (0, 0) Q1.out).trans rfl)
    have m0 := cell_regrown ((cell_of_row w1 _ 0 _ _ (0, 0) V4.out).trans rfl)
    have m1 := cell_regrown ((cell_of_row w1 _ 1 _ _ (0, 0) V4.out).trans rfl)
    have m2 := cell_regrown ((cell_of_row w1 _ 2 _ _ (0, 0) V4.out).trans rfl)
    have j0 := cell_regrown ((cell_of_row w1 _ 0 _ _ (0, 0) V5.out).trans rfl)
    have j1 := cell_regrown ((cell_of_row w1 _ 1 _ _ (0, 0) V5.out).trans rfl)
    have j2 := cell_regrown ((cell_of_row w1 _ 2 _ _ (0, 0) V5.out).trans rfl)
    refine wp_region_quiet_tail 15 (by kernel_rfl) (by kernel_rfl) ?_
    simp only [List.take_succ_cons, List.take_zero, List.drop_succ_cons, List.drop_zero]
    repeat (go_big_quiet_step (fail))
    refine wpQuiet_nil ?_
    intro _ hw'
    obtain ⟨⟨dq, osq⟩, hw''⟩ := hw'
    subst hw''
    have hb := below_regrown w1 dq osq
    clear k0 m0 m1 m2 j0 j1 j2 
    generalize grow (redrawn w1 dq) osq = w4 at *
    have Q4 := Lib.hid ((hb.block _ (block_lt Q3.out)).trans Q3.out)
    refine wpList_store_row rfl 33 _ _ rfl (w.heap.size + 1 + 1) _ rfl rfl 33 _ Q4.out (colSize4 _ _ _ _) (colSz _ _ _ _ _ _ _ _) (colOne _ _ _ _) ?_
    go_wp2_with fail
    exact bodyPost_ret (v := .agg #[.int .u16 c.g, .int .u16 c.b, .int .u16 c.r, .int .u16 c.a]) (results_cell_row (p := 6) (ty := 33) rfl _ _ (w.heap.size + 1 + 1) 33 _ (0, 0) _ rfl (setRow_heap w4 _ _ _ _ _ Q4.out) Try.underlying33 rfl colSize) rfl ⟨rfl, below_setRow (HB.out.trans (hb.mono HB.out.size)) (by omega) _⟩
  · have X := swap_row3
    go_enter Try.func49, Try.ntmps49
    go_wp2_with fail
    have HB := Lib.hid (below5 w (.cells #[.int .u16 c.r, .int .u16 c.g, .int .u16 c.b, .int .u16 c.a] 33) (.cells #[.int .i64 x, .int .i64 y, .int .i64 wd] 64) (.cells #[.int .u16 0, .int .u16 0, .int .u16 0, .int .u16 0] 33) (.cells #[.int .u16 c.r, .int .u16 c.g, .int .u16 c.b] 84) (.cells #[.int .i64 2, .int .i64 0, .int .i64 1] 85))
    obtain ⟨q1, q3, q4, q5⟩ := heap5 w (.cells #[.int .u16 c.r, .int .u16 c.g, .int .u16 c.b, .int .u16 c.a] 33) (.cells #[.int .i64 x, .int .i64 y, .int .i64 wd] 64) (.cells #[.int .u16 0, .int .u16 0, .int .u16 0, .int .u16 0] 33) (.cells #[.int .u16 c.r, .int .u16 c.g, .int .u16 c.b] 84) (.cells #[.int .i64 2, .int .i64 0, .int .i64 1] 85)
    clear c4 X
    generalize (((((w.alloc (.cells #[.int .u16 c.r, .int .u16 c.g, .int .u16 c.b, .int .u16 c.a] 33)).alloc (.cells #[.int .i64 x, .int .i64 y, .int .i64 wd] 64)).alloc (.cells #[.int .u16 0, .int .u16 0, .int .u16 0, .int .u16 0] 33)).alloc (.cells #[.int .u16 c.r, .int .u16 c.g, .int .u16 c.b] 84)).alloc (.cells #[.int .i64 2, .int .i64 0, .int .i64 1] 85)) = w1 at *
    have Q1 := Lib.hid q1
    have Q3 := Lib.hid q3
    have V4 := Lib.hid q4
    have V5 := Lib.hid q5
    clear q1 q3 q4 q5
    have k0 := cell_regrown ((cell_of_row w1 _ 3 _ _ (0, 0) Q1.out).trans rfl)
    have m0 := cell_regrown ((cell_of_row w1 _ 0 _ _ (0, 0) V4.out).trans rfl)
    have m1 := cell_regrown ((cell_of_row w1 _ 1 _ _ (0, 0) V4.out).trans rfl)
    have m2 := cell_regrown ((cell_of_row w1 _ 2 _ _ (0, 0) V4.out).trans rfl)
    have j0 := cell_regrown ((cell_of_row w1 _ 0 _ _ (0, 0) V5.out).trans rfl)
    have j1 := cell_regrown ((cell_of_row w1 _ 1 _ _ (0, 0) V5.out).trans rfl)
    have j2 := cell_regrown ((cell_of_row w1 _ 2 _ _ (0, 0) V5.out).trans rfl)
    refine wp_region_quiet_tail 15 (by kernel_rfl) (by kernel_rfl) ?_
    simp only [List.take_succ_cons, List.take_zero, List.drop_succ_cons, List.drop_zero]
    repeat (go_big_quiet_step (fail))
    refine wpQuiet_nil ?_
    intro _ hw'
    obtain ⟨⟨dq, osq⟩, hw''⟩ := hw'
    subst hw''
    have hb := below_regrown w1 dq osq
    clear k0 m0 m1 m2 j0 j1 j2 
    generalize grow (redrawn w1 dq) osq = w4 at *
    have Q4 := Lib.hid ((hb.block _ (block_lt Q3.out)).trans Q3.out)
    refine wpList_store_row rfl 33 _ _ rfl (w.heap.size + 1 + 1) _ rfl rfl 33 _ Q4.out (colSize4 _ _ _ _) (colSz _ _ _ _ _ _ _ _) (colOne _ _ _ _) ?_
    go_wp2_with fail
    exact bodyPost_ret (v := .agg #[.int .u16 c.b, .int .u16 c.r, .int .u16 c.g, .int .u16 c.a]) (results_cell_row (p := 6) (ty := 33) rfl _ _ (w.heap.size + 1 + 1) 33 _ (0, 0) _ rfl (setRow_heap w4 _ _ _ _ _ Q4.out) Try.underlying33 rfl colSize) rfl ⟨rfl, below_setRow (HB.out.trans (hb.mono HB.out.size)) (by omega) _⟩
  · have X := swap_row4
    go_enter Try.func49, Try.ntmps49
    go_wp2_with fail
    have HB := Lib.hid (below5 w (.cells #[.int .u16 c.r, .int .u16 c.g, .int .u16 c.b, .int .u16 c.a] 33) (.cells #[.int .i64 x, .int .i64 y, .int .i64 wd] 64) (.cells #[.int .u16 0, .int .u16 0, .int .u16 0, .int .u16 0] 33) (.cells #[.int .u16 c.r, .int .u16 c.g, .int .u16 c.b] 84) (.cells #[.int .i64 2, .int .i64 1, .int .i64 0] 85))
    obtain ⟨q1, q3, q4, q5⟩ := heap5 w (.cells #[.int .u16 c.r, .int .u16 c.g, .int .u16 c.b, .int .u16 c.a] 33) (.cells #[.int .i64 x, .int .i64 y, .int .i64 wd] 64) (.cells #[.int .u16 0, .int .u16 0, .int .u16 0, .int .u16 0] 33) (.cells #[.int .u16 c.r, .int .u16 c.g, .int .u16 c.b] 84) (.cells #[.int .i64 2, .int .i64 1, .int .i64 0] 85)
    clear c4 X
    generalize (((((w.alloc (.cells #[.int .u16 c.r, .int .u16 c.g, .int .u16 c.b, .int .u16 c.a] 33)).alloc (.cells #[.int .i64 x, .int .i64 y, .int .i64 wd] 64)).alloc (.cells #[.int .u16 0, .int .u16 0, .int .u16 0, .int .u16 0] 33)).alloc (.cells #[.int .u16 c.r, .int .u16 c.g, .int .u16 c.b] 84)).alloc (.cells #[.int .i64 2, .int .i64 1, .int .i64 0] 85)) = w1 at *
    have Q1 := Lib.hid q1
    have Q3 := Lib.hid q3
    have V4 := Lib.hid q4
    have V5 := Lib.hid q5
    clear q1 q3 q4 q5
    have k0 := cell_regrown ((cell_of_row w1 _ 3 _ _ (0, 0) Q1.out).trans rfl)
    have m0 := cell_regrown ((cell_of_row w1 _ 0 _ _ (0, 0) V4.out).trans rfl)
    have m1 := cell_regrown ((cell_of_row w1 _ 1 _ _ (0, 0) V4.out).trans rfl)
    have m2 := cell_regrown ((cell_of_row w1 _ 2 _ _ (0, 0) V4.out).trans rfl)
    have j0 := cell_regrown ((cell_of_row w1 _ 0 _ _ (0, 0) V5.out).trans rfl)
    have j1 := cell_regrown ((cell_of_row w1 _ 1 _ _ (0, 0) V5.out).trans rfl)
    have j2 := cell_regrown ((cell_of_row w1 _ 2 _ _ (0, 0) V5.out).trans rfl)
    refine wp_region_quiet_tail 15 (by kernel_rfl) (by kernel_rfl) ?_
    simp only [List.take_succ_cons, List.take_zero, List.drop_succ_cons, List.drop_zero]
    repeat (go_big_quiet_step (fail))
    refine wpQuiet_nil ?_
    intro _ hw'
    obtain ⟨⟨dq, osq⟩, hw''⟩ := hw'
    subst hw''
    have hb := below_regrown w1 dq osq
    clear k0 m0 m1 m2 j0 j1 j2 
    generalize grow (redrawn w1 dq) osq = w4 at *
    have Q4 := Lib.hid ((hb.block _ (block_lt Q3.out)).trans Q3.out)
    refine wpList_store_row rfl 33 _ _ rfl (w.heap.size + 1 + 1) _ rfl rfl 33 _ Q4.out (colSize4 _ _ _ _) (colSz _ _ _ _ _ _ _ _) (colOne _ _ _ _) ?_
    go_wp2_with fail
    exact bodyPost_ret (v := .agg #[.int .u16 c.b, .int .u16 c.g, .int .u16 c.r, .int .u16 c.a]) (results_cell_row (p := 6) (ty := 33) rfl _ _ (w.heap.size + 1 + 1) 33 _ (0, 0) _ rfl (setRow_heap w4 _ _ _ _ _ Q4.out) Try.underlying33 rfl colSize) rfl ⟨rfl, below_setRow (HB.out.trans (hb.mono HB.out.size)) (by omega) _⟩
theorem chan_row0 (c : C4) (w : World) : (Instr.index 87 (.agg #[.int .u16 c.r, .int .u16 c.g, .int .u16 c.b, .int .u16 c.a]) (.int .i64 0)).run Try.prog w = .ok (.int .u16 c.r) w := by kernel_rfl
theorem chan_row1 (c : C4) (w : World) : (Instr.index 87 (.agg #[.int .u16 c.r, .int .u16 c.g, .int .u16 c.b, .int .u16 c.a]) (.int .i64 1)).run Try.prog w = .ok (.int .u16 c.g) w := by kernel_rfl
theorem chan_row2 (c : C4) (w : World) : (Instr.index 87 (.agg #[.int .u16 c.r, .int .u16 c.g, .int .u16 c.b, .int .u16 c.a]) (.int .i64 2)).run Try.prog w = .ok (.int .u16 c.b) w := by kernel_rfl
theorem chan_row3 (c : C4) (w : World) : (Instr.index 87 (.agg #[.int .u16 c.r, .int .u16 c.g, .int .u16 c.b, .int .u16 c.a]) (.int .i64 3)).run Try.prog w = .ok (.int .u16 c.a) w := by kernel_rfl

set_option maxRecDepth 100000 in
set_option maxHeartbeats 1600000 in
theorem dir11 : DirF 50 11 := by
  intro a c x y wd p n cap w h hc _ hA
  obtain ⟨t, rfl, ht⟩ := fit1 (show pm.fitL a [(0, 3)] from h.1)
  obtain ⟨b, off, rfl, rfl, c0⟩ := args1 hA
  simp only at ht
  clear hc hA h
  rcases (show t = 0 ∨ t = 1 ∨ t = 2 ∨ t = 3 by omega) with rfl | rfl | rfl | rfl
  · go_enter Try.func50, Try.ntmps50
    go_wp2_with fail
    have HB := Lib.hid (below3 w (.cells #[.int .u16 c.r, .int .u16 c.g, .int .u16 c.b, .int .u16 c.a] 33) (.cells #[.int .i64 x, .int .i64 y, .int .i64 wd] 64) (.cells #[.int .u16 0, .int .u16 0, .int .u16 0, .int .u16 0] 33))
    obtain ⟨q1, q2, q3⟩ := heap3 w (.cells #[.int .u16 c.r, .int .u16 c.g, .int .u16 c.b, .int .u16 c.a] 33) (.cells #[.int .i64 x, .int .i64 y, .int .i64 wd] 64) (.cells #[.int .u16 0, .int .u16 0, .int .u16 0, .int .u16 0] 33)
    generalize (((w.alloc (.cells #[.int .u16 c.r, .int .u16 c.g, .int .u16 c.b, .int .u16 c.a] 33)).alloc (.cells #[.int .i64 x, .int .i64 y, .int .i64 wd] 64)).alloc (.cells #[.int .u16 0, .int .u16 0, .int .u16 0, .int .u16 0] 33)) = w1 at *
    have Q1 := Lib.hid q1
    have Q3 := Lib.hid q3
    clear q1 q2 q3
    have X := chan_row0 c
    have l0 := cell_regrown (keep_cell HB.out c0)
    clear c0
    have k0 := cell_regrown ((cell_of_row w1 _ 0 _ _ (0, 0) Q1.out).trans rfl)
    have k1 := cell_regrown ((cell_of_row w1 _ 1 _ _ (0, 0) Q1.out).trans rfl)
    have k2 := cell_regrown ((cell_of_row w1 _ 2 _ _ (0, 0) Q1.out).trans rfl)
    have k3 := cell_regrown ((cell_of_row w1 _ 3 _ _ (0, 0) Q1.out).trans rfl)
    refine wp_region_quiet_below (by kernel_rfl) (by kernel_rfl) ?_
    repeat (go_big_quiet_step (fail))
    refine wpQuiet_nil ?_
    intro _ hw'
    obtain ⟨⟨dq, osq⟩, hw''⟩ := hw'
    subst hw''
    have hb := below_regrown w1 dq osq
    clear k0 k1 k2 k3 l0 X
    generalize grow (redrawn w1 dq) osq = w4 at *
    have HB4 := Lib.hid (HB.out.trans (hb.mono HB.out.size))
    have Q4 := Lib.hid ((hb.block _ (block_lt Q3.out)).trans Q3.out)
    clear hb
    go_wp2_with (with_reducible refine wpList_store_row rfl 33 _ _ rfl (w.heap.size + 1 + 1) _ rfl rfl 33 _ Q4.out (colSize4 _ _ _ _) (colSz _ _ _ _ _ _ _ _) (colOne _ _ _ _) ?_)
    exact bodyPost_ret (v := .agg #[.int .u16 c.r, .int .u16 c.r, .int .u16 c.r, .int .u16 65535]) (results_cell_row (p := 6) (ty := 33) rfl _ _ (w.heap.size + 1 + 1) 33 _ (0, 0) _ rfl (setRow_heap w4 _ _ _ _ _ Q4.out) Try.underlying33 rfl colSize) rfl ⟨rfl, below_setRow HB4.out (by omega) _⟩
  · go_enter Try.func50, Try.ntmps50
    go_wp2_with fail
    have HB := Lib.hid (below3 w (.cells #[.int .u16 c.r, .int .u16 c.g, .int .u16 c.b, .int .u16 c.a] 33) (.cells #[.int .i64 x, .int .i64 y, .int .i64 wd] 64) (.cells #[.int .u16 0, .int .u16 0, .int .u16 0, .int .u16 0] 33))
    obtain ⟨q1, q2, q3⟩ := heap3 w (.cells #[.int .u16 c.r, .int .u16 c.g, .int .u16 c.b, .int .u16 c.a] 33) (.cells #[.int .i64 x, .int .i64 y, .int .i64 wd] 64) (.cells #[.int .u16 0, .int .u16 0, .int .u16 0, .int .u16 0] 33)
    generalize (((w.alloc (.cells #[.int .u16 c.r, .int .u16 c.g, .int .u16 c.b, .int .u16 c.a] 33)).alloc (.cells #[.int .i64 x, .int .i64 y, .int .i64 wd] 64)).alloc (.cells #[.int .u16 0, .int .u16 0, .int .u16 0, .int .u16 0] 33)) = w1 at *
    have Q1 := Lib.hid q1
    have Q3 := Lib.hid q3
    clear q1 q2 q3
    have X := chan_row1 c
    have l0 := cell_regrown (keep_cell HB.out c0)
    clear c0
    have k0 := cell_regrown ((cell_of_row w1 _ 0 _ _ (0, 0) Q1.out).trans rfl)
    have k1 := cell_regrown ((cell_of_row w1 _ 1 _ _ (0, 0) Q1.out).trans rfl)
    have k2 := cell_regrown ((cell_of_row w1 _ 2 _ _ (0, 0) Q1.out).trans rfl)
    have k3 := cell_regrown ((cell_of_row w1 _ 3 _ _ (0, 0) Q1.out).trans rfl)
    refine wp_region_quiet_below (by kernel_rfl) (by kernel_rfl) ?_
    repeat (go_big_quiet_step (fail))
    refine wpQuiet_nil ?_
    intro _ hw'
    obtain ⟨⟨dq, osq⟩, hw''⟩ := hw'
    subst hw''
    have hb := below_regrown w1 dq osq
    clear k0 k1 k2 k3 l0 X
    generalize grow (redrawn w1 dq) osq = w4 at *
    have HB4 := Lib.hid (HB.out.trans (hb.mono HB.out.size))
    have Q4 := Lib.hid ((hb.block _ (block_lt Q3.out)).trans Q3.out)
    clear hb
    go_wp2_with (with_reducible refine wpList_store_row rfl 33 _ _ rfl (w.heap.size + 1 + 1) _ rfl rfl 33 _ Q4.out (colSize4 _ _ _ _) (colSz _ _ _ _ _ _ _ _) (colOne _ _ _ _) ?_)
    exact bodyPost_ret (v := .agg #[.int .u16 c.g, .int .u16 c.g, .int .u16 c.g, .int .u16 65535]) (results_cell_row (p := 6) (ty := 33) rfl _ _ (w.heap.size + 1 + 1) 33 _ (0, 0) _ rfl (setRow_heap w4 _ _ _ _ _ Q4.out) Try.underlying33 rfl colSize) rfl ⟨rfl, below_setRow HB4.out (by omega) _⟩
  · go_enter Try.func50, Try.ntmps50
    go_wp2_with fail
    have HB := Lib.hid (below3 w (.cells #[.int .u16 c.r, .int .u16 c.g, .int .u16 c.b, .int .u16 c.a] 33) (.cells #[.int .i64 x, .int .i64 y, .int .i64 wd] 64) (.cells #[.int .u16 0, .int .u16 0, .int .u16 0, .int .u16 0] 33))
    obtain ⟨q1, q2, q3⟩ := heap3 w (.cells #[.int .u16 c.r, .int .u16 c.g, .int .u16 c.b, .int .u16 c.a] 33) (.cells #[.int .i64 x, .int .i64 y, .int .i64 wd] 64) (.cells #[.int .u16 0, .int .u16 0, .int .u16 0, .int .u16 0] 33)
    generalize (((w.alloc (.cells #[.int .u16 c.r, .int .u16 c.g, .int .u16 c.b, .int .u16 c.a] 33)).alloc (.cells #[.int .i64 x, .int .i64 y, .int .i64 wd] 64)).alloc (.cells #[.int .u16 0, .int .u16 0, .int .u16 0, .int .u16 0] 33)) = w1 at *
    have Q1 := Lib.hid q1
    have Q3 := Lib.hid q3
    clear q1 q2 q3
    have X := chan_row2 c
    have l0 := cell_regrown (keep_cell HB.out c0)
    clear c0
    have k0 := cell_regrown ((cell_of_row w1 _ 0 _ _ (0, 0) Q1.out).trans rfl)
    have k1 := cell_regrown ((cell_of_row w1 _ 1 _ _ (0, 0) Q1.out).trans rfl)
    have k2 := cell_regrown ((cell_of_row w1 _ 2 _ _ (0, 0) Q1.out).trans rfl)
    have k3 := cell_regrown ((cell_of_row w1 _ 3 _ _ (0, 0) Q1.out).trans rfl)
    refine wp_region_quiet_below (by kernel_rfl) (by kernel_rfl) ?_
    repeat (go_big_quiet_step (fail))
    refine wpQuiet_nil ?_
    intro _ hw'
    obtain ⟨⟨dq, osq⟩, hw''⟩ := hw'
    subst hw''
    have hb := below_regrown w1 dq osq
    clear k0 k1 k2 k3 l0 X
    generalize grow (redrawn w1 dq) osq = w4 at *
    have HB4 := Lib.hid (HB.out.trans (hb.mono HB.out.size))
    have Q4 := Lib.hid ((hb.block _ (block_lt Q3.out)).trans Q3.out)
    clear hb
    go_wp2_with (with_reducible refine wpList_store_row rfl 33 _ _ rfl (w.heap.size + 1 + 1) _ rfl rfl 33 _ Q4.out (colSize4 _ _ _ _) (colSz _ _ _ _ _ _ _ _) (colOne _ _ _ _) ?_)
    exact bodyPost_ret (v := .agg #[.int .u16 c.b, .int .u16 c.b, .int .u16 c.b, .int .u16 65535]) (results_cell_row (p := 6) (ty := 33) rfl _ _ (w.heap.size + 1 + 1) 33 _ (0, 0) _ rfl (setRow_heap w4 _ _ _ _ _ Q4.out) Try.underlying33 rfl colSize) rfl ⟨rfl, below_setRow HB4.out (by omega) _⟩
  · go_enter Try.func50, Try.ntmps50
    go_wp2_with fail
    have HB := Lib.hid (below3 w (.cells #[.int .u16 c.r, .int .u16 c.g, .int .u16 c.b, .int .u16 c.a] 33) (.cells #[.int .i64 x, .int .i64 y, .int .i64 wd] 64) (.cells #[.int .u16 0, .int .u16 0, .int .u16 0, .int .u16 0] 33))
    obtain ⟨q1, q2, q3⟩ := heap3 w (.cells #[.int .u16 c.r, .int .u16 c.g, .int .u16 c.b, .int .u16 c.a] 33) (.cells #[.int .i64 x, .int .i64 y, .int .i64 wd] 64) (.cells #[.int .u16 0, .int .u16 0, .int .u16 0, .int .u16 0] 33)
    generalize (((w.alloc (.cells #[.int .u16 c.r, .int .u16 c.g, .int .u16 c.b, .int .u16 c.a] 33)).alloc (.cells #[.int .i64 x, .int .i64 y, .int .i64 wd] 64)).alloc (.cells #[.int .u16 0, .int .u16 0, .int .u16 0, .int .u16 0] 33)) = w1 at *
    have Q1 := Lib.hid q1
    have Q3 := Lib.hid q3
    clear q1 q2 q3
    have X := chan_row3 c
    have l0 := cell_regrown (keep_cell HB.out c0)
    clear c0
    have k0 := cell_regrown ((cell_of_row w1 _ 0 _ _ (0, 0) Q1.out).trans rfl)
    have k1 := cell_regrown ((cell_of_row w1 _ 1 _ _ (0, 0) Q1.out).trans rfl)
    have k2 := cell_regrown ((cell_of_row w1 _ 2 _ _ (0, 0) Q1.out).trans rfl)
    have k3 := cell_regrown ((cell_of_row w1 _ 3 _ _ (0, 0) Q1.out).trans rfl)
    refine wp_region_quiet_below (by kernel_rfl) (by kernel_rfl) ?_
    repeat (go_big_quiet_step (fail))
    refine wpQuiet_nil ?_
    intro _ hw'
    obtain ⟨⟨dq, osq⟩, hw''⟩ := hw'
    subst hw''
    have hb := below_regrown w1 dq osq
    clear k0 k1 k2 k3 l0 X
    generalize grow (redrawn w1 dq) osq = w4 at *
    have HB4 := Lib.hid (HB.out.trans (hb.mono HB.out.size))
    have Q4 := Lib.hid ((hb.block _ (block_lt Q3.out)).trans Q3.out)
    clear hb
    go_wp2_with (with_reducible refine wpList_store_row rfl 33 _ _ rfl (w.heap.size + 1 + 1) _ rfl rfl 33 _ Q4.out (colSize4 _ _ _ _) (colSz _ _ _ _ _ _ _ _) (colOne _ _ _ _) ?_)
    exact bodyPost_ret (v := .agg #[.int .u16 c.a, .int .u16 c.a, .int .u16 c.a, .int .u16 65535]) (results_cell_row (p := 6) (ty := 33) rfl _ _ (w.heap.size + 1 + 1) 33 _ (0, 0) _ rfl (setRow_heap w4 _ _ _ _ _ Q4.out) Try.underlying33 rfl colSize) rfl ⟨rfl, below_setRow HB4.out (by omega) _⟩

set_option maxRecDepth 100000 in
theorem dir14 : DirF 54 14 := by
  intro a c x y wd p n cap w h hc _ hA
  clear hc hA h
  go_enter Try.func54, Try.ntmps54
  go_wp2_with fail
  exact bodyPost_ret (v := .agg #[.int .u16 c.r, .int .u16 c.g, .int .u16 c.b, .int .u16 65535]) (by simp [results, Try.results54, go_sem]) rfl ⟨rfl, below3 _ _ _ _⟩

/-- a field of the colour is stored -/
theorem col_set3 {w4 : World} {g : Nat} {r g' b a x : Int} (h : w4.heap[g]? = some (.cells #[.int .u16 r, .int .u16 g', .int .u16 b, .int .u16 a] 33)) :
    (w4.setCell ⟨g, 3, none⟩ (.int .u16 x)).heap[g]? = some (.cells #[.int .u16 r, .int .u16 g', .int .u16 b, .int .u16 x] 33) := by
  rw [heap_setCell_same w4 g 3 _ _ _ h]; rfl

set_option maxRecDepth 100000 in
theorem dir15 : DirF 55 15 := by
  intro a c x y wd p n cap w h hc _ hA
  obtain ⟨t, rfl, ht⟩ := fit1 (show pm.fitL a [(0, 256)] from h.1)
  obtain ⟨b, off, rfl, rfl, c0⟩ := args1 hA
  simp only at ht
  have ha := hc.2.2.2
  clear hc hA h
  have hm := pm.mul_range (x := c.a) (y := t) (A := 65535) (B := 256) ha ht
  go_enter Try.func55, Try.ntmps55
  go_wp2_with fail
  have HB := Lib.hid (below3 w (.cells #[.int .u16 c.r, .int .u16 c.g, .int .u16 c.b, .int .u16 c.a] 33) (.cells #[.int .i64 x, .int .i64 y, .int .i64 wd] 64) (.cells #[.int .u16 0, .int .u16 0, .int .u16 0, .int .u16 0] 33))
  obtain ⟨q1, q2, q3⟩ := heap3 w (.cells #[.int .u16 c.r, .int .u16 c.g, .int .u16 c.b, .int .u16 c.a] 33) (.cells #[.int .i64 x, .int .i64 y, .int .i64 wd] 64) (.cells #[.int .u16 0, .int .u16 0, .int .u16 0, .int .u16 0] 33)
  generalize (((w.alloc (.cells #[.int .u16 c.r, .int .u16 c.g, .int .u16 c.b, .int .u16 c.a] 33)).alloc (.cells #[.int .i64 x, .int .i64 y, .int .i64 wd] 64)).alloc (.cells #[.int .u16 0, .int .u16 0, .int .u16 0, .int .u16 0] 33)) = w1 at *
  have Q1 := Lib.hid q1
  have Q3 := Lib.hid q3
  clear q1 q2 q3
  have l0 := cell_regrown (keep_cell HB.out c0)
  clear c0
  have k0 := cell_regrown ((cell_of_row w1 _ 0 _ _ (0, 0) Q1.out).trans rfl)
  have k1 := cell_regrown ((cell_of_row w1 _ 1 _ _ (0, 0) Q1.out).trans rfl)
  have k2 := cell_regrown ((cell_of_row w1 _ 2 _ _ (0, 0) Q1.out).trans rfl)
  have k3 := cell_regrown ((cell_of_row w1 _ 3 _ _ (0, 0) Q1.out).trans rfl)
  have W1 : IntKind.i64.wrap c.a = c.a := IntWalk.i64_in _ (by omega)
  have W2 : IntKind.i64.wrap (c.a * t) = c.a * t := IntWalk.i64_in _ (by omega)
  refine wp_region_quiet_tail 10 (by kernel_rfl) (by kernel_rfl) ?_
  simp only [List.take_succ_cons, List.take_zero, List.drop_succ_cons, List.drop_zero]
  repeat (go_big_quiet_step (fail))
  refine wpQuiet_nil ?_
  intro _ hw'
  obtain ⟨⟨dq, osq⟩, hw''⟩ := hw'
  subst hw''
  have hb := below_regrown w1 dq osq
  clear k0 k1 k2 k3 l0 W1 W2
  generalize grow (redrawn w1 dq) osq = w4 at *
  have HB4 := Lib.hid (HB.out.trans (hb.mono HB.out.size))
  have R1 := Lib.hid ((hb.block _ (block_lt Q1.out)).trans Q1.out)
  have Q4 := Lib.hid ((hb.block _ (block_lt Q3.out)).trans Q3.out)
  clear hb
  have k3 := ((cell_of_row w4 _ 3 _ _ (0, 0) R1.out).trans rfl)
  have f3 := frozen_of_row w4 _ 3 _ _ R1.out
  have R5 := Lib.hid (col_set3 (x := c.a * t / 256) R1.out)
  have Q5 := Lib.hid ((Below.heap_setCell w4 ⟨w.heap.size, 3, none⟩ (.int .u16 (c.a * t / 256)) (w.heap.size + 1 + 1) (by simp; omega)).trans Q4.out)
  have n0 := ((cell_of_row (w4.setCell ⟨w.heap.size, 3, none⟩ (.int .u16 (c.a * t / 256))) _ 0 _ _ (0, 0) R5.out).trans rfl)
  have n1 := ((cell_of_row (w4.setCell ⟨w.heap.size, 3, none⟩ (.int .u16 (c.a * t / 256))) _ 1 _ _ (0, 0) R5.out).trans rfl)
  have n2 := ((cell_of_row (w4.setCell ⟨w.heap.size, 3, none⟩ (.int .u16 (c.a * t / 256))) _ 2 _ _ (0, 0) R5.out).trans rfl)
  have n3 := ((cell_of_row (w4.setCell ⟨w.heap.size, 3, none⟩ (.int .u16 (c.a * t / 256))) _ 3 _ _ (0, 0) R5.out).trans rfl)
  go_wp2_with (with_reducible refine wpList_store_row rfl 33 _ _ rfl (w.heap.size + 1 + 1) _ rfl rfl 33 _ Q5.out (colSize4 _ _ _ _) (colSz _ _ _ _ _ _ _ _) (colOne _ _ _ _) ?_)
  exact bodyPost_ret (v := .agg #[.int .u16 c.r, .int .u16 c.g, .int .u16 c.b, .int .u16 (c.a * t / 256)]) (results_cell_row (p := 6) (ty := 33) rfl _ _ (w.heap.size + 1 + 1) 33 _ (0, 0) _ rfl (setRow_heap (w4.setCell ⟨w.heap.size, 3, none⟩ (.int .u16 (c.a * t / 256))) _ _ _ _ _ Q5.out) Try.underlying33 rfl colSize) rfl ⟨rfl, below_setRow (HB4.out.setCell (p := ⟨w.heap.size, 3, none⟩) (Nat.le_refl _) _) (by omega) _⟩

set_option maxRecDepth 100000 in
theorem dir19 : DirF 61 19 := by
  intro a c x y wd p n cap w h hc hp hA
  have ha := hc.2.2.2
  obtain ⟨p0, p1, p2, p3, p4⟩ : 0 ≤ x ∧ x < wd ∧ wd ≤ 65536 ∧ 0 ≤ y ∧ y ≤ 65536 := by
    rcases hp with hp | hp
    · omega
    · exact hp
  clear hc hA h hp
  have hm := pm.mul_range (x := c.a) (y := wd - x) (A := 65535) (B := 65536) ha (by omega)
  have d0 : 0 ≤ c.a * (wd - x) / wd := Int.ediv_nonneg hm.1 (by omega)
  have d1 : c.a * (wd - x) / wd ≤ 65535 := Int.ediv_le_of_le_mul (by omega) (Int.mul_le_mul ha.2 (by omega) (by omega) (by omega))
  go_enter Try.func61, Try.ntmps61
  go_wp2_with fail
  exact bodyPost_ret (v := .agg #[.int .u16 c.r, .int .u16 c.g, .int .u16 c.b, .int .u16 (c.a * (wd - x) / wd)]) (by simp [results, Try.results61, go_sem]) rfl ⟨rfl, below3 _ _ _ _⟩
end Go.Proofs.Ytdemndjenlhahaa
