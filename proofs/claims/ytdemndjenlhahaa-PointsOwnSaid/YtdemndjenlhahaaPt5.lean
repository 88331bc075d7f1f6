/- What 'each' and 'three' make of a work. -/
import Derived.Test.YtdemndjenlhahaaPt4
import Derived.Test.YtdemndjenlhahaaQuietTail
import Derived.Shelf.Abstract
namespace Go.Proofs.Ytdemndjenlhahaa
open Go.RowKit Go.Sort Go.Shelf

/-- a work, at the arguments that are at hand -/
def EachAt (f : FuncId) (k : Nat) (a : List Int) (p : Option Addr) (n cap : Nat) : Prop := ∀ (s : Int) (W : World), 0 ≤ s → s ≤ 65535 → Sl .i64 W p n cap a →
  Calls Try.prog f #[.slice p n cap, .int .i64 s] W fun e w' => e = .returned (.int .i64 (pm.raw k a s)) ∧ Below W.heap.size W w'
theorem EachF.at {f : FuncId} {k : Nat} (h : EachF f k) {a : List Int} (hk : pm.okA k a) (p : Option Addr) (n cap : Nat) : EachAt f k a p n cap := fun s W h1 h2 hA => h a s p n cap W hk h1 h2 hA
theorem each0_at (a : List Int) (p : Option Addr) (n cap : Nat) : EachAt 33 0 a p n cap := by
  intro s w h1 h2 hA
  have HV : Hid (pm.raw 0 a s = 65535 - s) := Lib.hid rfl
  rw [HV.out]
  clear hA
  go_enter Try.func33, Try.ntmps33
  go_wp2
  go_ret
  exact ⟨rfl, Below.refl _ _⟩
theorem colSize : (Try.prog.info? 33).map (·.size) = some 4 := by kernel_rfl
theorem below4 (w : World) (X Y Z U : Obj) : Below w.heap.size w ((((w.alloc X).alloc Y).alloc Z).alloc U) :=
  ((((Below.refl _ _).alloc (Nat.le_refl _) _).alloc (by simp) _).alloc (by simp; omega) _).alloc (by simp; omega) _
theorem heap4 (w : World) (A B C D : Obj) : ((((w.alloc A).alloc B).alloc C).alloc D).heap[w.heap.size]? = some A ∧ ((((w.alloc A).alloc B).alloc C).alloc D).heap[w.heap.size + 1]? = some B ∧ ((((w.alloc A).alloc B).alloc C).alloc D).heap[w.heap.size + 1 + 1]? = some C ∧ ((((w.alloc A).alloc B).alloc C).alloc D).heap[w.heap.size + 1 + 1 + 1]? = some D := by
  obtain ⟨a, b, c⟩ := heap3 w A B C
  refine ⟨(Below.heap_alloc _ _ _ (block_lt a)).trans a, (Below.heap_alloc _ _ _ (block_lt b)).trans b, (Below.heap_alloc _ _ _ (block_lt c)).trans c, ?_⟩
  have := heap_alloc_last (((w.alloc A).alloc B).alloc C) D
  simpa using this

set_option maxRecDepth 100000 in
theorem each11 {f : FuncId} {k : Nat} (he : Enters Try.prog f) (a : List Int) (s : Int) (p : Option Addr) (n cap bf ba : Nat) (w : World) (hf : EachAt f k a p n cap) (h1 : 0 ≤ s) (h2 : s ≤ 65535) (hA : Sl .i64 w p n cap a)
    (cf : w.cell? ⟨bf, 0, none⟩ = some (.func (.func f) #[] #[])) (ca : w.cell? ⟨ba, 0, none⟩ = some (.slice p n cap)) :
    Calls Try.prog 66 #[.int .u16 s, .pointer (some ⟨bf, 0, none⟩), .pointer (some ⟨ba, 0, none⟩)] w fun e w' => e = .returned (.int .u16 (pm.smp k a s)) ∧ Below w.heap.size w w' := by
  have HF := Lib.hid (fun W (h : Sl .i64 W p n cap a) => hf s W h1 h2 h)
  have HA := Lib.hid hA
  clear hf hA
  unfold Enters at he
  go_enter Try.func66, Try.ntmps66
  go_wp2_with fail
  refine (HF.out w HA.out).mono ?_
  rintro e w1 ⟨rfl, hb1⟩
  have B1 := Lib.hid hb1
  clear hb1
  go_wp2_with fail
  refine (clampP_any _ _).mono ?_
  rintro e w2 ⟨rfl, rfl⟩
  go_wp2_with fail
  go_ret
  exact ⟨rfl, B1.out⟩

set_option maxRecDepth 100000 in
theorem each1 {f : FuncId} {k : Nat} (he : Enters Try.prog f) (a : List Int) (c : C4) (pl : Array Value) (p : Option Addr) (n cap bf : Nat) (w : World) (hf : EachAt f k a p n cap) (hc : c.ok) (hA : Sl .i64 w p n cap a)
    (cf : w.cell? ⟨bf, 0, none⟩ = some (.func (.func f) #[] #[])) :
    Calls Try.prog 65 #[.slice p n cap, .agg #[.int .u16 c.r, .int .u16 c.g, .int .u16 c.b, .int .u16 c.a], .agg pl, .pointer (some ⟨bf, 0, none⟩)] w fun e w' => e = .returned (pm.all k a c).val ∧ Below w.heap.size w w' := by
  have HF := Lib.hid hf
  have HA := Lib.hid hA
  have HC := Lib.hid hc
  clear hf hA hc
  go_enter Try.func65, Try.ntmps65
  go_wp2_with fail
  have HB := Lib.hid (below4 w (.cells #[.slice p n cap] 22) (.cells #[.int .u16 c.r, .int .u16 c.g, .int .u16 c.b, .int .u16 c.a] 33) (.cells pl 64) (.cells #[.int .u16 0, .int .u16 0, .int .u16 0, .int .u16 0] 33))
  obtain ⟨q0, q1, _, q3⟩ := heap4 w (.cells #[.slice p n cap] 22) (.cells #[.int .u16 c.r, .int .u16 c.g, .int .u16 c.b, .int .u16 c.a] 33) (.cells pl 64) (.cells #[.int .u16 0, .int .u16 0, .int .u16 0, .int .u16 0] 33)
  generalize ((((w.alloc (.cells #[.slice p n cap] 22)).alloc (.cells #[.int .u16 c.r, .int .u16 c.g, .int .u16 c.b, .int .u16 c.a] 33)).alloc (.cells pl 64)).alloc (.cells #[.int .u16 0, .int .u16 0, .int .u16 0, .int .u16 0] 33)) = w1 at *
  have Q3 := Lib.hid q3
  have CF := Lib.hid (keep_cell HB.out cf)
  have CA := Lib.hid ((cell_of_row w1 _ 0 _ _ (0, 0) q0).trans rfl)
  have k0 := cell_regrown ((cell_of_row w1 _ 0 _ _ (0, 0) q1).trans rfl)
  have k1 := cell_regrown ((cell_of_row w1 _ 1 _ _ (0, 0) q1).trans rfl)
  have k2 := cell_regrown ((cell_of_row w1 _ 2 _ _ (0, 0) q1).trans rfl)
  have k3 := cell_regrown ((cell_of_row w1 _ 3 _ _ (0, 0) q1).trans rfl)
  have CN : Hid (∀ s, 0 ≤ s ∧ s ≤ 65535 → ∀ d os, Calls Try.prog 66 #[.int .u16 s, .pointer (some ⟨bf, 0, none⟩), .pointer (some ⟨w.heap.size, 0, none⟩)] (grow (redrawn w1 d) os) fun e w'' => e = .returned (.int .u16 (pm.smp k a s)) ∧ ∃ p : Regrown, w'' = grow (redrawn w1 p.d) p.os) :=
    Lib.hid (fun s hs d os => Calls.regrown_of (each11 he a s p n cap bf w.heap.size _ HF.out hs.1 hs.2 (HA.out.below (HB.out.trans ((below_regrown w1 d os).mono HB.out.size))) (keep_cell (below_regrown w1 d os) CF.out) (keep_cell (below_regrown w1 d os) CA.out)))
  have HE := Lib.hid he
  clear q0 q1 q3 cf he
  refine wp_region_quiet_tail 15 (by kernel_rfl) (by kernel_rfl) ?_
  simp only [List.take_succ_cons, List.take_zero, List.drop_succ_cons, List.drop_zero]
  repeat (go_big_quiet_step (exact CN.out _ (by first | exact HC.out.1 | exact HC.out.2.1 | exact HC.out.2.2.1) _ _))
  refine wpQuiet_nil ?_
  intro _ hw'
  obtain ⟨⟨dq, osq⟩, hw''⟩ := hw'
  subst hw''
  have hb := below_regrown w1 dq osq
  clear k0 k1 k2 k3
  generalize grow (redrawn w1 dq) osq = w4 at *
  have Q4 := Lib.hid ((hb.block _ (block_lt Q3.out)).trans Q3.out)
  refine wpList_store_row rfl 33 _ _ rfl (w.heap.size + 1 + 1 + 1) _ rfl rfl 33 _ Q4.out colSize rfl (by simp [Value.oneCell']) ?_
  go_wp2_with fail
  exact bodyPost_ret (v := (pm.all k a c).val) (results_cell_row (p := 7) (ty := 33) rfl _ _ (w.heap.size + 1 + 1 + 1) 33 _ (0, 0) _ rfl (setRow_heap w4 _ _ _ _ _ Q4.out) Try.underlying33 rfl colSize) rfl ⟨rfl, below_setRow (HB.out.trans (hb.mono HB.out.size)) (by omega) _⟩
theorem below3 (w : World) (X Y Z : Obj) : Below w.heap.size w (((w.alloc X).alloc Y).alloc Z) :=
  (((Below.refl _ _).alloc (Nat.le_refl _) _).alloc (by simp) _).alloc (by simp; omega) _

set_option maxRecDepth 100000 in
set_option maxHeartbeats 1600000 in
theorem three1 {f : FuncId} {k : Nat} (he : Enters Try.prog f) (hf : ThreeF f k) (a : List Int) (c : C4) (pl : Array Value) (p : Option Addr) (n cap bf : Nat) (w : World) (hk : pm.okA k a) (hc : c.ok) (hA : Sl .i64 w p n cap a)
    (cf : w.cell? ⟨bf, 0, none⟩ = some (.func (.func f) #[] #[])) :
    Calls Try.prog 68 #[.slice p n cap, .agg #[.int .u16 c.r, .int .u16 c.g, .int .u16 c.b, .int .u16 c.a], .agg pl, .pointer (some ⟨bf, 0, none⟩)] w fun e w' => e = .returned (pm.all3 k a c).val ∧ Below w.heap.size w w' := by
  have HF := Lib.hid hf
  have HA := Lib.hid hA
  have HK := Lib.hid hk
  have HC := Lib.hid hc
  clear hf hA hk hc
  go_enter Try.func68, Try.ntmps68
  go_wp2_with fail
  have HB := Lib.hid (below3 w (.cells #[.int .u16 c.r, .int .u16 c.g, .int .u16 c.b, .int .u16 c.a] 33) (.cells pl 64) (.cells #[.int .u16 0, .int .u16 0, .int .u16 0, .int .u16 0] 33))
  obtain ⟨q1, _, q3⟩ := heap3 w (.cells #[.int .u16 c.r, .int .u16 c.g, .int .u16 c.b, .int .u16 c.a] 33) (.cells pl 64) (.cells #[.int .u16 0, .int .u16 0, .int .u16 0, .int .u16 0] 33)
  generalize (((w.alloc (.cells #[.int .u16 c.r, .int .u16 c.g, .int .u16 c.b, .int .u16 c.a] 33)).alloc (.cells pl 64)).alloc (.cells #[.int .u16 0, .int .u16 0, .int .u16 0, .int .u16 0] 33)) = w1 at *
  have Q3 := Lib.hid q3
  have l0 := cell_regrown (keep_cell HB.out cf)
  have k0 := cell_regrown ((cell_of_row w1 _ 0 _ _ (0, 0) q1).trans rfl)
  have k1 := cell_regrown ((cell_of_row w1 _ 1 _ _ (0, 0) q1).trans rfl)
  have k2 := cell_regrown ((cell_of_row w1 _ 2 _ _ (0, 0) q1).trans rfl)
  have k3 := cell_regrown ((cell_of_row w1 _ 3 _ _ (0, 0) q1).trans rfl)
  have CN : Hid (∀ j s, 0 ≤ j → j < 3 → 0 ≤ s ∧ s ≤ 65535 → ∀ d os, Calls Try.prog f #[.slice p n cap, .int .i64 j, .int .i64 s, .agg #[.int .u16 c.r, .int .u16 c.g, .int .u16 c.b, .int .u16 c.a]] (grow (redrawn w1 d) os) fun e w'' => e = .returned (.int .i64 (pm.raw3 k a j.toNat s c)) ∧ ∃ p : Regrown, w'' = grow (redrawn w1 p.d) p.os) :=
    Lib.hid (fun j s h1 h2 hs d os => Calls.regrown_of (by
      have := HF.out a j.toNat s c p n cap (grow (redrawn w1 d) os) HK.out (by omega) hs.1 hs.2 HC.out (HA.out.below (HB.out.trans ((below_regrown w1 d os).mono HB.out.size)))
      rwa [Int.toNat_of_nonneg h1] at this))
  have CC : Hid (∀ v d os, Calls Try.prog 67 #[.int .i64 v] (grow (redrawn w1 d) os) fun e w'' => e = .returned (.int .u16 (tm.clampTo v 65535)) ∧ ∃ p : Regrown, w'' = grow (redrawn w1 p.d) p.os) :=
    Lib.hid (fun v d os => Calls.regrown_of (below_of (clampP_any v _)))
  clear q1 q3 cf
  unfold Enters at he
  have W1 : IntKind.i64.wrap c.r = c.r := IntWalk.i64_in _ (by have := HC.out.1; omega)
  have W2 : IntKind.i64.wrap c.g = c.g := IntWalk.i64_in _ (by have := HC.out.2.1; omega)
  have W3 : IntKind.i64.wrap c.b = c.b := IntWalk.i64_in _ (by have := HC.out.2.2.1; omega)
  refine wp_region_quiet_tail 27 (by kernel_rfl) (by kernel_rfl) ?_
  simp only [List.take_succ_cons, List.take_zero, List.drop_succ_cons, List.drop_zero]
  repeat (go_big_quiet_step ((first | (go_at_call 67; exact CC.out _ _ _) | exact CN.out _ _ (by omega) (by omega) (by first | exact HC.out.1 | exact HC.out.2.1 | exact HC.out.2.2.1) _ _)))
  refine wpQuiet_nil ?_
  intro _ hw'
  obtain ⟨⟨dq, osq⟩, hw''⟩ := hw'
  subst hw''
  have hb := below_regrown w1 dq osq
  clear k0 k1 k2 k3 l0 W1 W2 W3
  generalize grow (redrawn w1 dq) osq = w4 at *
  have Q4 := Lib.hid ((hb.block _ (block_lt Q3.out)).trans Q3.out)
  refine wpList_store_row rfl 33 _ _ rfl (w.heap.size + 1 + 1) _ rfl rfl 33 _ Q4.out colSize rfl (by simp [Value.oneCell']) ?_
  go_wp2_with fail
  exact bodyPost_ret (v := (pm.all3 k a c).val) (results_cell_row (p := 7) (ty := 33) rfl _ _ (w.heap.size + 1 + 1) 33 _ (0, 0) _ rfl (setRow_heap w4 _ _ _ _ _ Q4.out) Try.underlying33 rfl colSize) rfl ⟨rfl, below_setRow (HB.out.trans (hb.mono HB.out.size)) (by omega) _⟩
end Go.Proofs.Ytdemndjenlhahaa
