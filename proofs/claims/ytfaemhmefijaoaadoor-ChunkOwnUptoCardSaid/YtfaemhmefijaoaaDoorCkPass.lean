/- The passes of interlacing: the program's walk. -/
import Derived.Test.YtfaemhmefijaoaaDoorCkUnf
import Derived.Test.YtfaemhmefijaoaaDoorQuietTail
import Derived.ScopeJumps
import Derived.WalkMore
import Derived.BigRegion
namespace Go.Proofs.YtfaemhmefijaoaaDoor
open Go.RowKit Go.Sort Go.Shelf

namespace ck
/-- a pass: its first place, its steps -/
structure Ps where
  X : Nat
  Y : Nat
  DX : Nat
  DY : Nat
def passTab : List Ps := [⟨0, 0, 8, 8⟩, ⟨4, 0, 8, 8⟩, ⟨0, 4, 4, 8⟩, ⟨2, 0, 4, 4⟩, ⟨0, 2, 2, 4⟩, ⟨1, 0, 2, 2⟩, ⟨0, 1, 1, 2⟩]
/-- how many places at a side -/
def span (s x d : Int) : Int := (s - x - 1) / d + 1
def Ps.cells (w h : Int) (p : Ps) : List Value := [.int .i64 p.X, .int .i64 p.Y, .int .i64 p.DX, .int .i64 p.DY, .int .i64 (span w p.X p.DX), .int .i64 (span h p.Y p.DY)]
def Ps.has (w h : Int) (p : Ps) : Prop := (p.X : Int) < w ∧ (p.Y : Int) < h
instance (w h : Int) (p : Ps) : Decidable (p.has w h) := by unfold Ps.has; infer_instance
def passesTo (w h : Int) (k : Nat) : List Ps := (passTab.take k).filter (fun p => decide (p.has w h))
def passes (w h : Int) : List Ps := passesTo w h 7
theorem passesTo_succ (w h : Int) {k : Nat} {p : Ps} (hp : passTab[k]? = some p) : passesTo w h (k + 1) = if p.has w h then passesTo w h k ++ [p] else passesTo w h k := by
  unfold passesTo
  rw [List.take_add_one, hp]
  simp only [Option.toList_some, List.filter_append]
  by_cases hh : p.has w h
  · rw [if_pos hh]; simp [hh]
  · rw [if_neg hh]; simp [hh]
def passCells (w h : Int) (l : List Ps) : List Value := l.flatMap (Ps.cells w h)
end ck
theorem infoPass : (Tryd.prog.info? 53).map (·.size) = some 6 := by kernel_rfl
theorem passSize (a b c d e f : Value) : (Tryd.prog.info? 53).map (·.size) = some (#[a, b, c, d, e, f] : Array Value).size := infoPass
theorem passSz (a b c d e f a' b' c' d' e' f' : Value) : (#[a, b, c, d, e, f] : Array Value).size = (#[a', b', c', d', e', f'] : Array Value).size := rfl
theorem passOne (a b c d e f : Int) : (#[.int .i64 a, .int .i64 b, .int .i64 c, .int .i64 d, .int .i64 e, .int .i64 f] : Array Value).all (·.oneCell') = true := by simp [Value.oneCell']
def PassPost (wd hg : Int) (l : List ck.Ps) (w : World) (e : Ending) (w' : World) : Prop :=
  ∃ v, e = .returned v ∧ w'.ownsRow w.heap.size 53 6 v l.length (ck.passCells wd hg l) ∧ Below w.heap.size w w'
theorem slots_72 {t : Array Value} (h : t.size = 72) : t = #[(fun i => t.getD i undef) 0, (fun i => t.getD i undef) 1, (fun i => t.getD i undef) 2, (fun i => t.getD i undef) 3, (fun i => t.getD i undef) 4, (fun i => t.getD i undef) 5, (fun i => t.getD i undef) 6, (fun i => t.getD i undef) 7, (fun i => t.getD i undef) 8, (fun i => t.getD i undef) 9, (fun i => t.getD i undef) 10, (fun i => t.getD i undef) 11, (fun i => t.getD i undef) 12, (fun i => t.getD i undef) 13, (fun i => t.getD i undef) 14, (fun i => t.getD i undef) 15, (fun i => t.getD i undef) 16, (fun i => t.getD i undef) 17, (fun i => t.getD i undef) 18, (fun i => t.getD i undef) 19, (fun i => t.getD i undef) 20, (fun i => t.getD i undef) 21, (fun i => t.getD i undef) 22, (fun i => t.getD i undef) 23, (fun i => t.getD i undef) 24, (fun i => t.getD i undef) 25, (fun i => t.getD i undef) 26, (fun i => t.getD i undef) 27, (fun i => t.getD i undef) 28, (fun i => t.getD i undef) 29, (fun i => t.getD i undef) 30, (fun i => t.getD i undef) 31, (fun i => t.getD i undef) 32, (fun i => t.getD i undef) 33, (fun i => t.getD i undef) 34, (fun i => t.getD i undef) 35, (fun i => t.getD i undef) 36, (fun i => t.getD i undef) 37, (fun i => t.getD i undef) 38, (fun i => t.getD i undef) 39, (fun i => t.getD i undef) 40, (fun i => t.getD i undef) 41, (fun i => t.getD i undef) 42, (fun i => t.getD i undef) 43, (fun i => t.getD i undef) 44, (fun i => t.getD i undef) 45, (fun i => t.getD i undef) 46, (fun i => t.getD i undef) 47, (fun i => t.getD i undef) 48, (fun i => t.getD i undef) 49, (fun i => t.getD i undef) 50, (fun i => t.getD i undef) 51, (fun i => t.getD i undef) 52, (fun i => t.getD i undef) 53, (fun i => t.getD i undef) 54, (fun i => t.getD i undef) 55, (fun i => t.getD i undef) 56, (fun i => t.getD i undef) 57, (fun i => t.getD i undef) 58, (fun i => t.getD i undef) 59, (fun i => t.getD i undef) 60, (fun i => t.getD i undef) 61, (fun i => t.getD i undef) 62, (fun i => t.getD i undef) 63, (fun i => t.getD i undef) 64, (fun i => t.getD i undef) 65, (fun i => t.getD i undef) 66, (fun i => t.getD i undef) 67, (fun i => t.getD i undef) 68, (fun i => t.getD i undef) 69, (fun i => t.getD i undef) 70, (fun i => t.getD i undef) 71] := slots_all h
/-- what holds at every jump -/
def PassJ (wd hg : Int) (w : World) (k : Nat) (a : Act) (W : World) : Prop :=
  ∃ (f : Nat → Value) (v : Value) (p : ck.Ps), a = { tmps := #[f 0, f 1, f 2, f 3, f 4, f 5, f 6, f 7, f 8, f 9, f 10, f 11, f 12, f 13, f 14, f 15, f 16, f 17, f 18, f 19, f 20, f 21, f 22, f 23, f 24, f 25, f 26, f 27, f 28, f 29, f 30, f 31, f 32, f 33, f 34, f 35, f 36, f 37, f 38, f 39, f 40, f 41, f 42, f 43, f 44, f 45, f 46, f 47, f 48, f 49, f 50, f 51, f 52, f 53, f 54, f 55, f 56, f 57, f 58, f 59, f 60, f 61, f 62, f 63, f 64, f 65, f 66, f 67, f 68, f 69, f 70, f 71], defers := [] } ∧ f 0 = .int .i64 wd ∧ f 1 = .int .i64 hg ∧ f 4 = .slice none 0 0 ∧ f 5 = v ∧ f 6 = .pointer (some ⟨w.heap.size, 0, none⟩) ∧ f 7 = .int .i64 k ∧ k < 7 ∧ ck.passTab[k]? = some p ∧
    W.heap[w.heap.size]? = some (.cells #[.int .i64 p.X, .int .i64 p.Y, .int .i64 p.DX, .int .i64 p.DY, .int .i64 0, .int .i64 0] 53 (0, 0)) ∧
    W.ownsRow (w.heap.size + 1) 53 6 v (ck.passesTo wd hg k).length (ck.passCells wd hg (ck.passesTo wd hg k)) ∧ Below w.heap.size w W ∧ w.heap.size < W.heap.size

theorem wp_scope_jumps2 {P : Program} {a : Act} {w : World} {Q : Exit → Act → World → Prop} {c rest : Code} (l : Nat) (J : Act → World → Prop) (μ : Act → World → Nat) (hf : findLabel c l = some (Code.skip.seq rest))
    (pass : ∀ a w, J a w → rest.wp P (Exit.jump l (fun a' w' => J a' w' ∧ μ a' w' < μ a w) Q) a w)
    (first : (∀ a w, J a w → rest.wp P (Exit.jump l J Q) a w) → c.wp P (Exit.jump l J Q) a w) : (Code.scope c).wp P Q a w := by
  refine wp_scope_jumps l J μ hf (first fun a w hJ => wp_mono (pass a w hJ) ?_) fun a w hJ => wp_seq (wp_skip (pass a w hJ))
  intro e a' w' h
  cases e with
  | goto l' => exact ⟨h.1, h.2.1⟩
  | normal => exact h
  | exit id => exact h
  | ret => exact h
  | panic c => exact h
  | outgrown => exact h
theorem pass_world {w' W2 : World} {g : Nat} {a b c d : Int} {x y sx sy : Int} (hg : w'.heap[g]? = some (.cells #[.int .i64 a, .int .i64 b, .int .i64 c, .int .i64 d, .int .i64 0, .int .i64 0] 53 (0, 0))) (hW : ((w'.setCell ⟨g, 4, none⟩ (.int .i64 x)).setCell ⟨g, 5, none⟩ (.int .i64 y)).drew = W2) (hx : x = sx) (hy : y = sy) :
    W2.heap[g]? = some (.cells #[.int .i64 a, .int .i64 b, .int .i64 c, .int .i64 d, .int .i64 sx, .int .i64 sy] 53 (0, 0)) ∧ w'.grownBy W2 (some g) := by
  subst hx
  subst hy
  subst hW
  have s1 := heap_setCell_same w' g 4 _ _ (.int .i64 x) hg
  have s2 := heap_setCell_same _ g 5 _ _ (.int .i64 y) s1
  refine ⟨s2, grown_join (grown_join (grownBy_setCell3 w' g 4 (.int .i64 x)) (grownBy_setCell3 _ g 5 (.int .i64 y))) ?_⟩
  exact ⟨rfl, rfl, rfl, Nat.le_refl _, fun _ _ _ => rfl⟩
theorem PassJ.mk' {wd hg : Int} {w W : World} {k : Nat} {t : Array Value} {v : Value} {p : ck.Ps} (hs : t.size = 72) (h0 : t.getD 0 undef = .int .i64 wd) (h1 : t.getD 1 undef = .int .i64 hg) (h4 : t.getD 4 undef = .slice none 0 0) (h5 : t.getD 5 undef = v) (h6 : t.getD 6 undef = .pointer (some ⟨w.heap.size, 0, none⟩)) (h7 : t.getD 7 undef = .int .i64 k)
    (hk : k < 7) (hp : ck.passTab[k]? = some p) (hb : W.heap[w.heap.size]? = some (.cells #[.int .i64 p.X, .int .i64 p.Y, .int .i64 p.DX, .int .i64 p.DY, .int .i64 0, .int .i64 0] 53 (0, 0)))
    (hr : W.ownsRow (w.heap.size + 1) 53 6 v (ck.passesTo wd hg k).length (ck.passCells wd hg (ck.passesTo wd hg k))) (hbl : Below w.heap.size w W) (hlt : w.heap.size < W.heap.size) : PassJ wd hg w k { tmps := t, defers := [] } W :=
  ⟨fun i => t.getD i undef, v, p, congrArg (fun x => ({ tmps := x, defers := [] } : Act)) (slots_72 hs), h0, h1, h4, h5, h6, h7, hk, hp, hb, hr, hbl, hlt⟩
theorem passCells_snoc (wd hg : Int) (l : List ck.Ps) (p : ck.Ps) : ck.passCells wd hg (l ++ [p]) = ck.passCells wd hg l ++ p.cells wd hg := by simp [ck.passCells]
theorem passesTo_length (wd hg : Int) (k : Nat) : (ck.passesTo wd hg k).length ≤ k := by
  unfold ck.passesTo
  refine Nat.le_trans (List.length_filter_le _ _) ?_
  rw [List.length_take]
  omega
theorem infoPassZ : (Tryd.prog.info? 53).map (fun i => (i.zero, i.size, i.bytes)) = some (some (.agg #[.int .i64 0, .int .i64 0, .int .i64 0, .int .i64 0, .int .i64 0, .int .i64 0]), 6, 48) := by kernel_rfl
/-- what a jump of pass k comes from -/
def PassM (a : Act) (_ : World) : Nat := 7 - (intOf (a.tmps.getD 7 undef)).toNat

set_option maxRecDepth 100000 in
set_option maxHeartbeats 3200000 in
theorem passes_any (wd hg : Int) (w : World) (hw1 : -9223372036854775808 ≤ wd) (hw2 : wd ≤ 9223372036854775807) (hh1 : -9223372036854775808 ≤ hg) (hh2 : hg ≤ 9223372036854775807) :
    Calls Tryd.prog 23 #[.int .i64 wd, .int .i64 hg] w (PassPost wd hg (ck.passes wd hg) w) := by
  go_enter Tryd.func23, Tryd.ntmps23
  go_wp2_with fail
  refine wp_scope_jumps2 0 (fun a' w' => ∃ k, PassJ wd hg w k a' w') PassM rfl ?_ ?_
  · rintro a' w' ⟨k, f, v, p, rfl, e0, e1, e4, e5, e6, e7, hk, hp, hg6, hr, hb, hlt⟩
    have hM : PassM { tmps := #[f 0, f 1, f 2, f 3, f 4, f 5, f 6, f 7, f 8, f 9, f 10, f 11, f 12, f 13, f 14, f 15, f 16, f 17, f 18, f 19, f 20, f 21, f 22, f 23, f 24, f 25, f 26, f 27, f 28, f 29, f 30, f 31, f 32, f 33, f 34, f 35, f 36, f 37, f 38, f 39, f 40, f 41, f 42, f 43, f 44, f 45, f 46, f 47, f 48, f 49, f 50, f 51, f 52, f 53, f 54, f 55, f 56, f 57, f 58, f 59, f 60, f 61, f 62, f 63, f 64, f 65, f 66, f 67, f 68, f 69, f 70, f 71], defers := [] } w' = 7 - k := by
      show 7 - (intOf (f 7)).toNat = 7 - k
      rw [e7]
      simp [intOf]
    rw [hM]
    clear hM
    rw [e0, e1, e4, e5, e6, e7]
    clear e0 e1 e4 e5 e6 e7
    dsimp only
    have HR := Lib.hid hr
    have HB := Lib.hid hb
    have H6 := Lib.hid hg6
    have HP := Lib.hid hp
    clear hr hb hg6 hp
    match k, hk with
    | 0, _ =>
      obtain rfl : p = ⟨0, 0, 8, 8⟩ := (Option.some.inj HP.out).symm
      have HS := Lib.hid (ck.passesTo_succ wd hg (k := 0) HP.out)
      have c0 := (cell_of_row _ _ 0 _ _ (0, 0) H6.out).trans rfl
      have c1 := (cell_of_row _ _ 1 _ _ (0, 0) H6.out).trans rfl
      have c2 := (cell_of_row _ _ 2 _ _ (0, 0) H6.out).trans rfl
      have c3 := (cell_of_row _ _ 3 _ _ (0, 0) H6.out).trans rfl
      by_cases h1 : (0 : Int) < wd
      · by_cases h2 : (0 : Int) < hg
        · go_wp2_with fail
          have c4 := (cell_of_row _ _ 4 _ _ (0, 0) H6.out).trans rfl
          have c5 := (cell_of_row _ _ 5 _ _ (0, 0) H6.out).trans rfl
          have f4 := frozen_of_row _ _ 4 _ _ H6.out
          have f5 := frozen_of_row _ _ 5 _ _ H6.out
          go_region
          generalize hW : World.drew _ = W2
          obtain ⟨hb2, hg2⟩ := pass_world (sx := ck.span wd 0 8) (sy := ck.span hg 0 8) H6.out hW (by unfold ck.span; omega) (by unfold ck.span; omega)
          have BX2 := Lib.hid hb2
          have HR2 := Lib.hid (own_kept HR.out hg2 (Nat.lt_succ_self _))
          have HB2 := Lib.hid (HB.out.grown hg2 HB.out.size (fun j e => by cases e; exact Nat.le_refl _))
          have hl7 := passesTo_length wd hg 0
          have HS9 : Hid (ck.passesTo wd hg 1 = ck.passesTo wd hg 0 ++ [⟨0, 0, 8, 8⟩]) := Lib.hid (HS.out.trans (if_pos ⟨h1, h2⟩))
          have HRU := Lib.hid (HR2.out.alloc (.cells #[.int .i64 0, .int .i64 0, .int .i64 8, .int .i64 8, .int .i64 (ck.span wd 0 8), .int .i64 (ck.span hg 0 8)] 53))
          have NW := Lib.hid (news_alloc W2 [.int .i64 0, .int .i64 0, .int .i64 8, .int .i64 8, .int .i64 (ck.span wd 0 8), .int .i64 (ck.span hg 0 8)] 53)
          have SZU : w.heap.size + 1 ≤ (W2.alloc (.cells #[.int .i64 0, .int .i64 0, .int .i64 8, .int .i64 8, .int .i64 (ck.span wd 0 8), .int .i64 (ck.span hg 0 8)] 53)).heap.size := by
            have := block_lt hb2
            simp
            omega
          obtain ⟨i0, hi, hz0, hz1, hz2⟩ := info_parts infoPassZ
          clear c0 c1 c2 c3 c4 c5 f4 f5 h1 h2 hW hb2 hg2
          go_wp2_with (first
            | (with_reducible refine wpList_load_row rfl 53 _ rfl w.heap.size rfl 53 _ (0, 0) _ BX2.out Tryd.underlying53 rfl (passSize _ _ _ _ _ _) ?_)
            | (at_builtin; go_must (refine wpList_append_own _ rfl _ _ 49 rfl (w.heap.size + 1) 53 i0 (.agg #[.int .i64 0, .int .i64 0, .int .i64 0, .int .i64 0, .int .i64 0, .int .i64 0]) 6 48 Tryd.underlying49 hi hz0 hz1 hz2 rfl (by decide) v (ck.passesTo wd hg 0).length _ rfl HRU.out ⟨W2.heap.size, 0, none⟩ 1 1 [.int .i64 0, .int .i64 0, .int .i64 8, .int .i64 8, .int .i64 (ck.span wd 0 8), .int .i64 (ck.span hg 0 8)] rfl rfl NW.out (by simp [Value.oneCell']) (by unfold maxLen; omega) (by omega) SZU ?_; intro v' W3 hown hgw hnil; have BX3 := Lib.hid (grown_block hgw ((Below.heap_alloc W2 _ _ (block_lt BX2.out)).trans BX2.out) (own_ne HRU.out (Nat.lt_succ_self _))); have HR3 : Hid (W3.ownsRow (w.heap.size + 1) 53 6 v' (ck.passesTo wd hg 1).length (ck.passCells wd hg (ck.passesTo wd hg 1))) := Lib.hid (by rw [HS9.out, List.length_append, passCells_snoc]; exact hown); have HB3 := Lib.hid ((HB2.out.alloc HB2.out.size _).grown hgw (HB2.out.alloc HB2.out.size _).size (fun j e => Nat.le_of_succ_le (World.ownsRow.lt HRU.out j e).1)); clear hown hgw hnil))
            | (with_reducible refine wpList_store_row rfl 53 _ _ rfl w.heap.size _ rfl rfl 53 _ BX3.out (passSize _ _ _ _ _ _) (passSz _ _ _ _ _ _ _ _ _ _ _ _) (passOne _ _ _ _ _ _) ?_))
          refine wp_region_quiet_tail 10 (by kernel_rfl) (by kernel_rfl) ?_
          simp only [List.take_succ_cons, List.take_zero, List.drop_succ_cons, List.drop_zero]
          repeat (go_big_quiet_step (fail))
          refine wpQuiet_nil ?_
          intro _ hw'
          obtain ⟨⟨dq, osq⟩, hw''⟩ := hw'
          subst hw''
          have hbq := below_regrown W3 dq osq
          generalize grow (redrawn W3 dq) osq = W4 at *
          have BX4 := Lib.hid ((hbq.block _ (block_lt BX3.out)).trans BX3.out)
          have HR4 := Lib.hid (ownsRow_below HR3.out hbq)
          have HB4 := Lib.hid (HB3.out.trans (hbq.mono HB3.out.size))
          clear hbq
          refine wpList_store_row rfl 53 _ _ rfl w.heap.size _ rfl rfl 53 _ BX4.out (passSize _ _ _ _ _ _) (passSz _ _ _ _ _ _ _ _ _ _ _ _) (passOne _ _ _ _ _ _) ?_
          go_wp2_with fail
          go_step3
          refine ⟨rfl, ⟨1, PassJ.mk' (v := v') (p := ⟨4, 0, 8, 8⟩) rfl rfl rfl rfl rfl rfl rfl (by decide) rfl (setRow_heap W4 _ _ _ _ _ BX4.out) (own_kept HR4.out (grownBy_setRow _ _ _) (Nat.lt_succ_self _)) (below_setRow HB4.out (Nat.le_refl _) _) (by have := block_lt BX4.out; simpa using this)⟩, ?_⟩
          show 7 - 1 < 7 - 0
          decide
        · have HS9 : ck.passesTo wd hg 1 = ck.passesTo wd hg 0 := HS.out.trans (if_neg (fun h => h2 h.2))
          have BX3 := H6
          have HB3 := HB
          have HR3 : Hid (w'.ownsRow (w.heap.size + 1) 53 6 v (ck.passesTo wd hg 1).length (ck.passCells wd hg (ck.passesTo wd hg 1))) := Lib.hid (by rw [HS9]; exact HR.out)
          clear HS9
          go_wp2_with (with_reducible refine wpList_store_row rfl 53 _ _ rfl w.heap.size _ rfl rfl 53 _ BX3.out (passSize _ _ _ _ _ _) (passSz _ _ _ _ _ _ _ _ _ _ _ _) (passOne _ _ _ _ _ _) ?_)
          refine wp_region_quiet_tail 10 (by kernel_rfl) (by kernel_rfl) ?_
          simp only [List.take_succ_cons, List.take_zero, List.drop_succ_cons, List.drop_zero]
          repeat (go_big_quiet_step (fail))
          refine wpQuiet_nil ?_
          intro _ hw'
          obtain ⟨⟨dq, osq⟩, hw''⟩ := hw'
          subst hw''
          have hbq := below_regrown w' dq osq
          generalize grow (redrawn w' dq) osq = W4 at *
          have BX4 := Lib.hid ((hbq.block _ (block_lt BX3.out)).trans BX3.out)
          have HR4 := Lib.hid (ownsRow_below HR3.out hbq)
          have HB4 := Lib.hid (HB3.out.trans (hbq.mono HB3.out.size))
          clear hbq
          refine wpList_store_row rfl 53 _ _ rfl w.heap.size _ rfl rfl 53 _ BX4.out (passSize _ _ _ _ _ _) (passSz _ _ _ _ _ _ _ _ _ _ _ _) (passOne _ _ _ _ _ _) ?_
          go_wp2_with fail
          go_step3
          refine ⟨rfl, ⟨1, PassJ.mk' (v := v) (p := ⟨4, 0, 8, 8⟩) rfl rfl rfl rfl rfl rfl rfl (by decide) rfl (setRow_heap W4 _ _ _ _ _ BX4.out) (own_kept HR4.out (grownBy_setRow _ _ _) (Nat.lt_succ_self _)) (below_setRow HB4.out (Nat.le_refl _) _) (by have := block_lt BX4.out; simpa using this)⟩, ?_⟩
          show 7 - 1 < 7 - 0
          decide
      · have HS9 : ck.passesTo wd hg 1 = ck.passesTo wd hg 0 := HS.out.trans (if_neg (fun h => h1 h.1))
        have BX3 := H6
        have HB3 := HB
        have HR3 : Hid (w'.ownsRow (w.heap.size + 1) 53 6 v (ck.passesTo wd hg 1).length (ck.passCells wd hg (ck.passesTo wd hg 1))) := Lib.hid (by rw [HS9]; exact HR.out)
        clear HS9
        go_wp2_with (with_reducible refine wpList_store_row rfl 53 _ _ rfl w.heap.size _ rfl rfl 53 _ BX3.out (passSize _ _ _ _ _ _) (passSz _ _ _ _ _ _ _ _ _ _ _ _) (passOne _ _ _ _ _ _) ?_)
        refine wp_region_quiet_tail 10 (by kernel_rfl) (by kernel_rfl) ?_
        simp only [List.take_succ_cons, List.take_zero, List.drop_succ_cons, List.drop_zero]
        repeat (go_big_quiet_step (fail))
        refine wpQuiet_nil ?_
        intro _ hw'
        obtain ⟨⟨dq, osq⟩, hw''⟩ := hw'
        subst hw''
        have hbq := below_regrown w' dq osq
        generalize grow (redrawn w' dq) osq = W4 at *
        have BX4 := Lib.hid ((hbq.block _ (block_lt BX3.out)).trans BX3.out)
        have HR4 := Lib.hid (ownsRow_below HR3.out hbq)
        have HB4 := Lib.hid (HB3.out.trans (hbq.mono HB3.out.size))
        clear hbq
        refine wpList_store_row rfl 53 _ _ rfl w.heap.size _ rfl rfl 53 _ BX4.out (passSize _ _ _ _ _ _) (passSz _ _ _ _ _ _ _ _ _ _ _ _) (passOne _ _ _ _ _ _) ?_
        go_wp2_with fail
        go_step3
        refine ⟨rfl, ⟨1, PassJ.mk' (v := v) (p := ⟨4, 0, 8, 8⟩) rfl rfl rfl rfl rfl rfl rfl (by decide) rfl (setRow_heap W4 _ _ _ _ _ BX4.out) (own_kept HR4.out (grownBy_setRow _ _ _) (Nat.lt_succ_self _)) (below_setRow HB4.out (Nat.le_refl _) _) (by have := block_lt BX4.out; simpa using this)⟩, ?_⟩
        show 7 - 1 < 7 - 0
        decide
    | 1, _ =>
      obtain rfl : p = ⟨4, 0, 8, 8⟩ := (Option.some.inj HP.out).symm
      have HS := Lib.hid (ck.passesTo_succ wd hg (k := 1) HP.out)
      have c0 := (cell_of_row _ _ 0 _ _ (0, 0) H6.out).trans rfl
      have c1 := (cell_of_row _ _ 1 _ _ (0, 0) H6.out).trans rfl
      have c2 := (cell_of_row _ _ 2 _ _ (0, 0) H6.out).trans rfl
      have c3 := (cell_of_row _ _ 3 _ _ (0, 0) H6.out).trans rfl
      by_cases h1 : (4 : Int) < wd
      · by_cases h2 : (0 : Int) < hg
        · go_wp2_with fail
          have c4 := (cell_of_row _ _ 4 _ _ (0, 0) H6.out).trans rfl
          have c5 := (cell_of_row _ _ 5 _ _ (0, 0) H6.out).trans rfl
          have f4 := frozen_of_row _ _ 4 _ _ H6.out
          have f5 := frozen_of_row _ _ 5 _ _ H6.out
          go_region
          generalize hW : World.drew _ = W2
          obtain ⟨hb2, hg2⟩ := pass_world (sx := ck.span wd 4 8) (sy := ck.span hg 0 8) H6.out hW (by unfold ck.span; omega) (by unfold ck.span; omega)
          have BX2 := Lib.hid hb2
          have HR2 := Lib.hid (own_kept HR.out hg2 (Nat.lt_succ_self _))
          have HB2 := Lib.hid (HB.out.grown hg2 HB.out.size (fun j e => by cases e; exact Nat.le_refl _))
          have hl7 := passesTo_length wd hg 1
          have HS9 : Hid (ck.passesTo wd hg 2 = ck.passesTo wd hg 1 ++ [⟨4, 0, 8, 8⟩]) := Lib.hid (HS.out.trans (if_pos ⟨h1, h2⟩))
          have HRU := Lib.hid (HR2.out.alloc (.cells #[.int .i64 4, .int .i64 0, .int .i64 8, .int .i64 8, .int .i64 (ck.span wd 4 8), .int .i64 (ck.span hg 0 8)] 53))
          have NW := Lib.hid (news_alloc W2 [.int .i64 4, .int .i64 0, .int .i64 8, .int .i64 8, .int .i64 (ck.span wd 4 8), .int .i64 (ck.span hg 0 8)] 53)
          have SZU : w.heap.size + 1 ≤ (W2.alloc (.cells #[.int .i64 4, .int .i64 0, .int .i64 8, .int .i64 8, .int .i64 (ck.span wd 4 8), .int .i64 (ck.span hg 0 8)] 53)).heap.size := by
            have := block_lt hb2
            simp
            omega
          obtain ⟨i0, hi, hz0, hz1, hz2⟩ := info_parts infoPassZ
          clear c0 c1 c2 c3 c4 c5 f4 f5 h1 h2 hW hb2 hg2
          go_wp2_with (first
            | (with_reducible refine wpList_load_row rfl 53 _ rfl w.heap.size rfl 53 _ (0, 0) _ BX2.out Tryd.underlying53 rfl (passSize _ _ _ _ _ _) ?_)
            | (at_builtin; go_must (refine wpList_append_own _ rfl _ _ 49 rfl (w.heap.size + 1) 53 i0 (.agg #[.int .i64 0, .int .i64 0, .int .i64 0, .int .i64 0, .int .i64 0, .int .i64 0]) 6 48 Tryd.underlying49 hi hz0 hz1 hz2 rfl (by decide) v (ck.passesTo wd hg 1).length _ rfl HRU.out ⟨W2.heap.size, 0, none⟩ 1 1 [.int .i64 4, .int .i64 0, .int .i64 8, .int .i64 8, .int .i64 (ck.span wd 4 8), .int .i64 (ck.span hg 0 8)] rfl rfl NW.out (by simp [Value.oneCell']) (by unfold maxLen; omega) (by omega) SZU ?_; intro v' W3 hown hgw hnil; have BX3 := Lib.hid (grown_block hgw ((Below.heap_alloc W2 _ _ (block_lt BX2.out)).trans BX2.out) (own_ne HRU.out (Nat.lt_succ_self _))); have HR3 : Hid (W3.ownsRow (w.heap.size + 1) 53 6 v' (ck.passesTo wd hg 2).length (ck.passCells wd hg (ck.passesTo wd hg 2))) := Lib.hid (by rw [HS9.out, List.length_append, passCells_snoc]; exact hown); have HB3 := Lib.hid ((HB2.out.alloc HB2.out.size _).grown hgw (HB2.out.alloc HB2.out.size _).size (fun j e => Nat.le_of_succ_le (World.ownsRow.lt HRU.out j e).1)); clear hown hgw hnil))
            | (with_reducible refine wpList_store_row rfl 53 _ _ rfl w.heap.size _ rfl rfl 53 _ BX3.out (passSize _ _ _ _ _ _) (passSz _ _ _ _ _ _ _ _ _ _ _ _) (passOne _ _ _ _ _ _) ?_))
          go_step3
          refine ⟨rfl, ⟨2, PassJ.mk' (v := v') (p := ⟨0, 4, 4, 8⟩) rfl rfl rfl rfl rfl rfl rfl (by decide) rfl (setRow_heap W3 _ _ _ _ _ BX3.out) (own_kept HR3.out (grownBy_setRow _ _ _) (Nat.lt_succ_self _)) (below_setRow HB3.out (Nat.le_refl _) _) (by have := block_lt BX3.out; simpa using this)⟩, ?_⟩
          show 7 - 2 < 7 - 1
          decide
        · have HS9 : ck.passesTo wd hg 2 = ck.passesTo wd hg 1 := HS.out.trans (if_neg (fun h => h2 h.2))
          have BX3 := H6
          have HB3 := HB
          have HR3 : Hid (w'.ownsRow (w.heap.size + 1) 53 6 v (ck.passesTo wd hg 2).length (ck.passCells wd hg (ck.passesTo wd hg 2))) := Lib.hid (by rw [HS9]; exact HR.out)
          clear HS9
          go_wp2_with (with_reducible refine wpList_store_row rfl 53 _ _ rfl w.heap.size _ rfl rfl 53 _ BX3.out (passSize _ _ _ _ _ _) (passSz _ _ _ _ _ _ _ _ _ _ _ _) (passOne _ _ _ _ _ _) ?_)
          go_step3
          refine ⟨rfl, ⟨2, PassJ.mk' (v := v) (p := ⟨0, 4, 4, 8⟩) rfl rfl rfl rfl rfl rfl rfl (by decide) rfl (setRow_heap w' _ _ _ _ _ BX3.out) (own_kept HR3.out (grownBy_setRow _ _ _) (Nat.lt_succ_self _)) (below_setRow HB3.out (Nat.le_refl _) _) (by have := block_lt BX3.out; simpa using this)⟩, ?_⟩
          show 7 - 2 < 7 - 1
          decide
      · have HS9 : ck.passesTo wd hg 2 = ck.passesTo wd hg 1 := HS.out.trans (if_neg (fun h => h1 h.1))
        have BX3 := H6
        have HB3 := HB
        have HR3 : Hid (w'.ownsRow (w.heap.size + 1) 53 6 v (ck.passesTo wd hg 2).length (ck.passCells wd hg (ck.passesTo wd hg 2))) := Lib.hid (by rw [HS9]; exact HR.out)
        clear HS9
        go_wp2_with (with_reducible refine wpList_store_row rfl 53 _ _ rfl w.heap.size _ rfl rfl 53 _ BX3.out (passSize _ _ _ _ _ _) (passSz _ _ _ _ _ _ _ _ _ _ _ _) (passOne _ _ _ _ _ _) ?_)
        go_step3
        refine ⟨rfl, ⟨2, PassJ.mk' (v := v) (p := ⟨0, 4, 4, 8⟩) rfl rfl rfl rfl rfl rfl rfl (by decide) rfl (setRow_heap w' _ _ _ _ _ BX3.out) (own_kept HR3.out (grownBy_setRow _ _ _) (Nat.lt_succ_self _)) (below_setRow HB3.out (Nat.le_refl _) _) (by have := block_lt BX3.out; simpa using this)⟩, ?_⟩
        show 7 - 2 < 7 - 1
        decide
    | 2, _ =>
      obtain rfl : p = ⟨0, 4, 4, 8⟩ := (Option.some.inj HP.out).symm
      have HS := Lib.hid (ck.passesTo_succ wd hg (k := 2) HP.out)
      have c0 := (cell_of_row _ _ 0 _ _ (0, 0) H6.out).trans rfl
      have c1 := (cell_of_row _ _ 1 _ _ (0, 0) H6.out).trans rfl
      have c2 := (cell_of_row _ _ 2 _ _ (0, 0) H6.out).trans rfl
      have c3 := (cell_of_row _ _ 3 _ _ (0, 0) H6.out).trans rfl
      by_cases h1 : (0 : Int) < wd
      · by_cases h2 : (4 : Int) < hg
        · go_wp2_with fail
          have c4 := (cell_of_row _ _ 4 _ _ (0, 0) H6.out).trans rfl
          have c5 := (cell_of_row _ _ 5 _ _ (0, 0) H6.out).trans rfl
          have f4 := frozen_of_row _ _ 4 _ _ H6.out
          have f5 := frozen_of_row _ _ 5 _ _ H6.out
          go_region
          generalize hW : World.drew _ = W2
          obtain ⟨hb2, hg2⟩ := pass_world (sx := ck.span wd 0 4) (sy := ck.span hg 4 8) H6.out hW (by unfold ck.span; omega) (by unfold ck.span; omega)
          have BX2 := Lib.hid hb2
          have HR2 := Lib.hid (own_kept HR.out hg2 (Nat.lt_succ_self _))
          have HB2 := Lib.hid (HB.out.grown hg2 HB.out.size (fun j e => by cases e; exact Nat.le_refl _))
          have hl7 := passesTo_length wd hg 2
          have HS9 : Hid (ck.passesTo wd hg 3 = ck.passesTo wd hg 2 ++ [⟨0, 4, 4, 8⟩]) := Lib.hid (HS.out.trans (if_pos ⟨h1, h2⟩))
          have HRU := Lib.hid (HR2.out.alloc (.cells #[.int .i64 0, .int .i64 4, .int .i64 4, .int .i64 8, .int .i64 (ck.span wd 0 4), .int .i64 (ck.span hg 4 8)] 53))
          have NW := Lib.hid (news_alloc W2 [.int .i64 0, .int .i64 4, .int .i64 4, .int .i64 8, .int .i64 (ck.span wd 0 4), .int .i64 (ck.span hg 4 8)] 53)
          have SZU : w.heap.size + 1 ≤ (W2.alloc (.cells #[.int .i64 0, .int .i64 4, .int .i64 4, .int .i64 8, .int .i64 (ck.span wd 0 4), .int .i64 (ck.span hg 4 8)] 53)).heap.size := by
            have := block_lt hb2
            simp
            omega
          obtain ⟨i0, hi, hz0, hz1, hz2⟩ := info_parts infoPassZ
          clear c0 c1 c2 c3 c4 c5 f4 f5 h1 h2 hW hb2 hg2
          go_wp2_with (first
            | (with_reducible refine wpList_load_row rfl 53 _ rfl w.heap.size rfl 53 _ (0, 0) _ BX2.out Tryd.underlying53 rfl (passSize _ _ _ _ _ _) ?_)
            | (at_builtin; go_must (refine wpList_append_own _ rfl _ _ 49 rfl (w.heap.size + 1) 53 i0 (.agg #[.int .i64 0, .int .i64 0, .int .i64 0, .int .i64 0, .int .i64 0, .int .i64 0]) 6 48 Tryd.underlying49 hi hz0 hz1 hz2 rfl (by decide) v (ck.passesTo wd hg 2).length _ rfl HRU.out ⟨W2.heap.size, 0, none⟩ 1 1 [.int .i64 0, .int .i64 4, .int .i64 4, .int .i64 8, .int .i64 (ck.span wd 0 4), .int .i64 (ck.span hg 4 8)] rfl rfl NW.out (by simp [Value.oneCell']) (by unfold maxLen; omega) (by omega) SZU ?_; intro v' W3 hown hgw hnil; have BX3 := Lib.hid (grown_block hgw ((Below.heap_alloc W2 _ _ (block_lt BX2.out)).trans BX2.out) (own_ne HRU.out (Nat.lt_succ_self _))); have HR3 : Hid (W3.ownsRow (w.heap.size + 1) 53 6 v' (ck.passesTo wd hg 3).length (ck.passCells wd hg (ck.passesTo wd hg 3))) := Lib.hid (by rw [HS9.out, List.length_append, passCells_snoc]; exact hown); have HB3 := Lib.hid ((HB2.out.alloc HB2.out.size _).grown hgw (HB2.out.alloc HB2.out.size _).size (fun j e => Nat.le_of_succ_le (World.ownsRow.lt HRU.out j e).1)); clear hown hgw hnil))
            | (with_reducible refine wpList_store_row rfl 53 _ _ rfl w.heap.size _ rfl rfl 53 _ BX3.out (passSize _ _ _ _ _ _) (passSz _ _ _ _ _ _ _ _ _ _ _ _) (passOne _ _ _ _ _ _) ?_))
          refine wp_region_quiet_tail 10 (by kernel_rfl) (by kernel_rfl) ?_
          simp only [List.take_succ_cons, List.take_zero, List.drop_succ_cons, List.drop_zero]
          repeat (go_big_quiet_step (fail))
          refine wpQuiet_nil ?_
          intro _ hw'
          obtain ⟨⟨dq, osq⟩, hw''⟩ := hw'
          subst hw''
          have hbq := below_regrown W3 dq osq
          generalize grow (redrawn W3 dq) osq = W4 at *
          have BX4 := Lib.hid ((hbq.block _ (block_lt BX3.out)).trans BX3.out)
          have HR4 := Lib.hid (ownsRow_below HR3.out hbq)
          have HB4 := Lib.hid (HB3.out.trans (hbq.mono HB3.out.size))
          clear hbq
          refine wpList_store_row rfl 53 _ _ rfl w.heap.size _ rfl rfl 53 _ BX4.out (passSize _ _ _ _ _ _) (passSz _ _ _ _ _ _ _ _ _ _ _ _) (passOne _ _ _ _ _ _) ?_
          go_wp2_with fail
          go_step3
          refine ⟨rfl, ⟨3, PassJ.mk' (v := v') (p := ⟨2, 0, 4, 4⟩) rfl rfl rfl rfl rfl rfl rfl (by decide) rfl (setRow_heap W4 _ _ _ _ _ BX4.out) (own_kept HR4.out (grownBy_setRow _ _ _) (Nat.lt_succ_self _)) (below_setRow HB4.out (Nat.le_refl _) _) (by have := block_lt BX4.out; simpa using this)⟩, ?_⟩
          show 7 - 3 < 7 - 2
          decide
        · have HS9 : ck.passesTo wd hg 3 = ck.passesTo wd hg 2 := HS.out.trans (if_neg (fun h => h2 h.2))
          have BX3 := H6
          have HB3 := HB
          have HR3 : Hid (w'.ownsRow (w.heap.size + 1) 53 6 v (ck.passesTo wd hg 3).length (ck.passCells wd hg (ck.passesTo wd hg 3))) := Lib.hid (by rw [HS9]; exact HR.out)
          clear HS9
          go_wp2_with (with_reducible refine wpList_store_row rfl 53 _ _ rfl w.heap.size _ rfl rfl 53 _ BX3.out (passSize _ _ _ _ _ _) (passSz _ _ _ _ _ _ _ _ _ _ _ _) (passOne _ _ _ _ _ _) ?_)
          refine wp_region_quiet_tail 10 (by kernel_rfl) (by kernel_rfl) ?_
          simp only [List.take_succ_cons, List.take_zero, List.drop_succ_cons, List.drop_zero]
          repeat (go_big_quiet_step (fail))
          refine wpQuiet_nil ?_
          intro _ hw'
          obtain ⟨⟨dq, osq⟩, hw''⟩ := hw'
          subst hw''
          have hbq := below_regrown w' dq osq
          generalize grow (redrawn w' dq) osq = W4 at *
          have BX4 := Lib.hid ((hbq.block _ (block_lt BX3.out)).trans BX3.out)
          have HR4 := Lib.hid (ownsRow_below HR3.out hbq)
          have HB4 := Lib.hid (HB3.out.trans (hbq.mono HB3.out.size))
          clear hbq
          refine wpList_store_row rfl 53 _ _ rfl w.heap.size _ rfl rfl 53 _ BX4.out (passSize _ _ _ _ _ _) (passSz _ _ _ _ _ _ _ _ _ _ _ _) (passOne _ _ _ _ _ _) ?_
          go_wp2_with fail
          go_step3
          refine ⟨rfl, ⟨3, PassJ.mk' (v := v) (p := ⟨2, 0, 4, 4⟩) rfl rfl rfl rfl rfl rfl rfl (by decide) rfl (setRow_heap W4 _ _ _ _ _ BX4.out) (own_kept HR4.out (grownBy_setRow _ _ _) (Nat.lt_succ_self _)) (below_setRow HB4.out (Nat.le_refl _) _) (by have := block_lt BX4.out; simpa using this)⟩, ?_⟩
          show 7 - 3 < 7 - 2
          decide
      · have HS9 : ck.passesTo wd hg 3 = ck.passesTo wd hg 2 := HS.out.trans (if_neg (fun h => h1 h.1))
        have BX3 := H6
        have HB3 := HB
        have HR3 : Hid (w'.ownsRow (w.heap.size + 1) 53 6 v (ck.passesTo wd hg 3).length (ck.passCells wd hg (ck.passesTo wd hg 3))) := Lib.hid (by rw [HS9]; exact HR.out)
        clear HS9
        go_wp2_with (with_reducible refine wpList_store_row rfl 53 _ _ rfl w.heap.size _ rfl rfl 53 _ BX3.out (passSize _ _ _ _ _ _) (passSz _ _ _ _ _ _ _ _ _ _ _ _) (passOne _ _ _ _ _ _) ?_)
        refine wp_region_quiet_tail 10 (by kernel_rfl) (by kernel_rfl) ?_
        simp only [List.take_succ_cons, List.take_zero, List.drop_succ_cons, List.drop_zero]
        repeat (go_big_quiet_step (fail))
        refine wpQuiet_nil ?_
        intro _ hw'
        obtain ⟨⟨dq, osq⟩, hw''⟩ := hw'
        subst hw''
        have hbq := below_regrown w' dq osq
        generalize grow (redrawn w' dq) osq = W4 at *
        have BX4 := Lib.hid ((hbq.block _ (block_lt BX3.out)).trans BX3.out)
        have HR4 := Lib.hid (ownsRow_below HR3.out hbq)
        have HB4 := Lib.hid (HB3.out.trans (hbq.mono HB3.out.size))
        clear hbq
        refine wpList_store_row rfl 53 _ _ rfl w.heap.size _ rfl rfl 53 _ BX4.out (passSize _ _ _ _ _ _) (passSz _ _ _ _ _ _ _ _ _ _ _ _) (passOne _ _ _ _ _ _) ?_
        go_wp2_with fail
        go_step3
        refine ⟨rfl, ⟨3, PassJ.mk' (v := v) (p := ⟨2, 0, 4, 4⟩) rfl rfl rfl rfl rfl rfl rfl (by decide) rfl (setRow_heap W4 _ _ _ _ _ BX4.out) (own_kept HR4.out (grownBy_setRow _ _ _) (Nat.lt_succ_self _)) (below_setRow HB4.out (Nat.le_refl _) _) (by have := block_lt BX4.out; simpa using this)⟩, ?_⟩
        show 7 - 3 < 7 - 2
        decide
    | 3, _ =>
      obtain rfl : p = ⟨2, 0, 4, 4⟩ := (Option.some.inj HP.out).symm
      have HS := Lib.hid (ck.passesTo_succ wd hg (k := 3) HP.out)
      have c0 := (cell_of_row _ _ 0 _ _ (0, 0) H6.out).trans rfl
      have c1 := (cell_of_row _ _ 1 _ _ (0, 0) H6.out).trans rfl
      have c2 := (cell_of_row _ _ 2 _ _ (0, 0) H6.out).trans rfl
      have c3 := (cell_of_row _ _ 3 _ _ (0, 0) H6.out).trans rfl
      by_cases h1 : (2 : Int) < wd
      · by_cases h2 : (0 : Int) < hg
        · go_wp2_with fail
          have c4 := (cell_of_row _ _ 4 _ _ (0, 0) H6.out).trans rfl
          have c5 := (cell_of_row _ _ 5 _ _ (0, 0) H6.out).trans rfl
          have f4 := frozen_of_row _ _ 4 _ _ H6.out
          have f5 := frozen_of_row _ _ 5 _ _ H6.out
          go_region
          generalize hW : World.drew _ = W2
          obtain ⟨hb2, hg2⟩ := pass_world (sx := ck.span wd 2 4) (sy := ck.span hg 0 4) H6.out hW (by unfold ck.span; omega) (by unfold ck.span; omega)
          have BX2 := Lib.hid hb2
          have HR2 := Lib.hid (own_kept HR.out hg2 (Nat.lt_succ_self _))
          have HB2 := Lib.hid (HB.out.grown hg2 HB.out.size (fun j e => by cases e; exact Nat.le_refl _))
          have hl7 := passesTo_length wd hg 3
          have HS9 : Hid (ck.passesTo wd hg 4 = ck.passesTo wd hg 3 ++ [⟨2, 0, 4, 4⟩]) := Lib.hid (HS.out.trans (if_pos ⟨h1, h2⟩))
          have HRU := Lib.hid (HR2.out.alloc (.cells #[.int .i64 2, .int .i64 0, .int .i64 4, .int .i64 4, .int .i64 (ck.span wd 2 4), .int .i64 (ck.span hg 0 4)] 53))
          have NW := Lib.hid (news_alloc W2 [.int .i64 2, .int .i64 0, .int .i64 4, .int .i64 4, .int .i64 (ck.span wd 2 4), .int .i64 (ck.span hg 0 4)] 53)
          have SZU : w.heap.size + 1 ≤ (W2.alloc (.cells #[.int .i64 2, .int .i64 0, .int .i64 4, .int .i64 4, .int .i64 (ck.span wd 2 4), .int .i64 (ck.span hg 0 4)] 53)).heap.size := by
            have := block_lt hb2
            simp
            omega
          obtain ⟨i0, hi, hz0, hz1, hz2⟩ := info_parts infoPassZ
          clear c0 c1 c2 c3 c4 c5 f4 f5 h1 h2 hW hb2 hg2
          go_wp2_with (first
            | (with_reducible refine wpList_load_row rfl 53 _ rfl w.heap.size rfl 53 _ (0, 0) _ BX2.out Tryd.underlying53 rfl (passSize _ _ _ _ _ _) ?_)
            | (at_builtin; go_must (refine wpList_append_own _ rfl _ _ 49 rfl (w.heap.size + 1) 53 i0 (.agg #[.int .i64 0, .int .i64 0, .int .i64 0, .int .i64 0, .int .i64 0, .int .i64 0]) 6 48 Tryd.underlying49 hi hz0 hz1 hz2 rfl (by decide) v (ck.passesTo wd hg 3).length _ rfl HRU.out ⟨W2.heap.size, 0, none⟩ 1 1 [.int .i64 2, .int .i64 0, .int .i64 4, .int .i64 4, .int .i64 (ck.span wd 2 4), .int .i64 (ck.span hg 0 4)] rfl rfl NW.out (by simp [Value.oneCell']) (by unfold maxLen; omega) (by omega) SZU ?_; intro v' W3 hown hgw hnil; have BX3 := Lib.hid (grown_block hgw ((Below.heap_alloc W2 _ _ (block_lt BX2.out)).trans BX2.out) (own_ne HRU.out (Nat.lt_succ_self _))); have HR3 : Hid (W3.ownsRow (w.heap.size + 1) 53 6 v' (ck.passesTo wd hg 4).length (ck.passCells wd hg (ck.passesTo wd hg 4))) := Lib.hid (by rw [HS9.out, List.length_append, passCells_snoc]; exact hown); have HB3 := Lib.hid ((HB2.out.alloc HB2.out.size _).grown hgw (HB2.out.alloc HB2.out.size _).size (fun j e => Nat.le_of_succ_le (World.ownsRow.lt HRU.out j e).1)); clear hown hgw hnil))
            | (with_reducible refine wpList_store_row rfl 53 _ _ rfl w.heap.size _ rfl rfl 53 _ BX3.out (passSize _ _ _ _ _ _) (passSz _ _ _ _ _ _ _ _ _ _ _ _) (passOne _ _ _ _ _ _) ?_))
          go_step3
          refine ⟨rfl, ⟨4, PassJ.mk' (v := v') (p := ⟨0, 2, 2, 4⟩) rfl rfl rfl rfl rfl rfl rfl (by decide) rfl (setRow_heap W3 _ _ _ _ _ BX3.out) (own_kept HR3.out (grownBy_setRow _ _ _) (Nat.lt_succ_self _)) (below_setRow HB3.out (Nat.le_refl _) _) (by have := block_lt BX3.out; simpa using this)⟩, ?_⟩
          show 7 - 4 < 7 - 3
          decide
        · have HS9 : ck.passesTo wd hg 4 = ck.passesTo wd hg 3 := HS.out.trans (if_neg (fun h => h2 h.2))
          have BX3 := H6
          have HB3 := HB
          have HR3 : Hid (w'.ownsRow (w.heap.size + 1) 53 6 v (ck.passesTo wd hg 4).length (ck.passCells wd hg (ck.passesTo wd hg 4))) := Lib.hid (by rw [HS9]; exact HR.out)
          clear HS9
          go_wp2_with (with_reducible refine wpList_store_row rfl 53 _ _ rfl w.heap.size _ rfl rfl 53 _ BX3.out (passSize _ _ _ _ _ _) (passSz _ _ _ _ _ _ _ _ _ _ _ _) (passOne _ _ _ _ _ _) ?_)
          go_step3
          refine ⟨rfl, ⟨4, PassJ.mk' (v := v) (p := ⟨0, 2, 2, 4⟩) rfl rfl rfl rfl rfl rfl rfl (by decide) rfl (setRow_heap w' _ _ _ _ _ BX3.out) (own_kept HR3.out (grownBy_setRow _ _ _) (Nat.lt_succ_self _)) (below_setRow HB3.out (Nat.le_refl _) _) (by have := block_lt BX3.out; simpa using this)⟩, ?_⟩
          show 7 - 4 < 7 - 3
          decide
      · have HS9 : ck.passesTo wd hg 4 = ck.passesTo wd hg 3 := HS.out.trans (if_neg (fun h => h1 h.1))
        have BX3 := H6
        have HB3 := HB
        have HR3 : Hid (w'.ownsRow (w.heap.size + 1) 53 6 v (ck.passesTo wd hg 4).length (ck.passCells wd hg (ck.passesTo wd hg 4))) := Lib.hid (by rw [HS9]; exact HR.out)
        clear HS9
        go_wp2_with (with_reducible refine wpList_store_row rfl 53 _ _ rfl w.heap.size _ rfl rfl 53 _ BX3.out (passSize _ _ _ _ _ _) (passSz _ _ _ _ _ _ _ _ _ _ _ _) (passOne _ _ _ _ _ _) ?_)
        go_step3
        refine ⟨rfl, ⟨4, PassJ.mk' (v := v) (p := ⟨0, 2, 2, 4⟩) rfl rfl rfl rfl rfl rfl rfl (by decide) rfl (setRow_heap w' _ _ _ _ _ BX3.out) (own_kept HR3.out (grownBy_setRow _ _ _) (Nat.lt_succ_self _)) (below_setRow HB3.out (Nat.le_refl _) _) (by have := block_lt BX3.out; simpa using this)⟩, ?_⟩
        show 7 - 4 < 7 - 3
        decide
    | 4, _ =>
      obtain rfl : p = ⟨0, 2, 2, 4⟩ := (Option.some.inj HP.out).symm
      have HS := Lib.hid (ck.passesTo_succ wd hg (k := 4) HP.out)
      have c0 := (cell_of_row _ _ 0 _ _ (0, 0) H6.out).trans rfl
      have c1 := (cell_of_row _ _ 1 _ _ (0, 0) H6.out).trans rfl
      have c2 := (cell_of_row _ _ 2 _ _ (0, 0) H6.out).trans rfl
      have c3 := (cell_of_row _ _ 3 _ _ (0, 0) H6.out).trans rfl
      by_cases h1 : (0 : Int) < wd
      · by_cases h2 : (2 : Int) < hg
        · go_wp2_with fail
          have c4 := (cell_of_row _ _ 4 _ _ (0, 0) H6.out).trans rfl
          have c5 := (cell_of_row _ _ 5 _ _ (0, 0) H6.out).trans rfl
          have f4 := frozen_of_row _ _ 4 _ _ H6.out
          have f5 := frozen_of_row _ _ 5 _ _ H6.out
          go_region
          generalize hW : World.drew _ = W2
          obtain ⟨hb2, hg2⟩ := pass_world (sx := ck.span wd 0 2) (sy := ck.span hg 2 4) H6.out hW (by unfold ck.span; omega) (by unfold ck.span; omega)
          have BX2 := Lib.hid hb2
          have HR2 := Lib.hid (own_kept HR.out hg2 (Nat.lt_succ_self _))
          have HB2 := Lib.hid (HB.out.grown hg2 HB.out.size (fun j e => by cases e; exact Nat.le_refl _))
          have hl7 := passesTo_length wd hg 4
          have HS9 : Hid (ck.passesTo wd hg 5 = ck.passesTo wd hg 4 ++ [⟨0, 2, 2, 4⟩]) := Lib.hid (HS.out.trans (if_pos ⟨h1, h2⟩))
          have HRU := Lib.hid (HR2.out.alloc (.cells #[.int .i64 0, .int .i64 2, .int .i64 2, .int .i64 4, .int .i64 (ck.span wd 0 2), .int .i64 (ck.span hg 2 4)] 53))
          have NW := Lib.hid (news_alloc W2 [.int .i64 0, .int .i64 2, .int .i64 2, .int .i64 4, .int .i64 (ck.span wd 0 2), .int .i64 (ck.span hg 2 4)] 53)
          have SZU : w.heap.size + 1 ≤ (W2.alloc (.cells #[.int .i64 0, .int .i64 2, .int .i64 2, .int .i64 4, .int .i64 (ck.span wd 0 2), .int .i64 (ck.span hg 2 4)] 53)).heap.size := by
            have := block_lt hb2
            simp
            omega
          obtain ⟨i0, hi, hz0, hz1, hz2⟩ := info_parts infoPassZ
          clear c0 c1 c2 c3 c4 c5 f4 f5 h1 h2 hW hb2 hg2
          go_wp2_with (first
            | (with_reducible refine wpList_load_row rfl 53 _ rfl w.heap.size rfl 53 _ (0, 0) _ BX2.out Tryd.underlying53 rfl (passSize _ _ _ _ _ _) ?_)
            | (at_builtin; go_must (refine wpList_append_own _ rfl _ _ 49 rfl (w.heap.size + 1) 53 i0 (.agg #[.int .i64 0, .int .i64 0, .int .i64 0, .int .i64 0, .int .i64 0, .int .i64 0]) 6 48 Tryd.underlying49 hi hz0 hz1 hz2 rfl (by decide) v (ck.passesTo wd hg 4).length _ rfl HRU.out ⟨W2.heap.size, 0, none⟩ 1 1 [.int .i64 0, .int .i64 2, .int .i64 2, .int .i64 4, .int .i64 (ck.span wd 0 2), .int .i64 (ck.span hg 2 4)] rfl rfl NW.out (by simp [Value.oneCell']) (by unfold maxLen; omega) (by omega) SZU ?_; intro v' W3 hown hgw hnil; have BX3 := Lib.hid (grown_block hgw ((Below.heap_alloc W2 _ _ (block_lt BX2.out)).trans BX2.out) (own_ne HRU.out (Nat.lt_succ_self _))); have HR3 : Hid (W3.ownsRow (w.heap.size + 1) 53 6 v' (ck.passesTo wd hg 5).length (ck.passCells wd hg (ck.passesTo wd hg 5))) := Lib.hid (by rw [HS9.out, List.length_append, passCells_snoc]; exact hown); have HB3 := Lib.hid ((HB2.out.alloc HB2.out.size _).grown hgw (HB2.out.alloc HB2.out.size _).size (fun j e => Nat.le_of_succ_le (World.ownsRow.lt HRU.out j e).1)); clear hown hgw hnil))
            | (with_reducible refine wpList_store_row rfl 53 _ _ rfl w.heap.size _ rfl rfl 53 _ BX3.out (passSize _ _ _ _ _ _) (passSz _ _ _ _ _ _ _ _ _ _ _ _) (passOne _ _ _ _ _ _) ?_))
          refine wp_region_quiet_tail 10 (by kernel_rfl) (by kernel_rfl) ?_
          simp only [List.take_succ_cons, List.take_zero, List.drop_succ_cons, List.drop_zero]
          repeat (go_big_quiet_step (fail))
          refine wpQuiet_nil ?_
          intro _ hw'
          obtain ⟨⟨dq, osq⟩, hw''⟩ := hw'
          subst hw''
          have hbq := below_regrown W3 dq osq
          generalize grow (redrawn W3 dq) osq = W4 at *
          have BX4 := Lib.hid ((hbq.block _ (block_lt BX3.out)).trans BX3.out)
          have HR4 := Lib.hid (ownsRow_below HR3.out hbq)
          have HB4 := Lib.hid (HB3.out.trans (hbq.mono HB3.out.size))
          clear hbq
          refine wpList_store_row rfl 53 _ _ rfl w.heap.size _ rfl rfl 53 _ BX4.out (passSize _ _ _ _ _ _) (passSz _ _ _ _ _ _ _ _ _ _ _ _) (passOne _ _ _ _ _ _) ?_
          go_wp2_with fail
          go_step3
          refine ⟨rfl, ⟨5, PassJ.mk' (v := v') (p := ⟨1, 0, 2, 2⟩) rfl rfl rfl rfl rfl rfl rfl (by decide) rfl (setRow_heap W4 _ _ _ _ _ BX4.out) (own_kept HR4.out (grownBy_setRow _ _ _) (Nat.lt_succ_self _)) (below_setRow HB4.out (Nat.le_refl _) _) (by have := block_lt BX4.out; simpa using this)⟩, ?_⟩
          show 7 - 5 < 7 - 4
          decide
        · have HS9 : ck.passesTo wd hg 5 = ck.passesTo wd hg 4 := HS.out.trans (if_neg (fun h => h2 h.2))
          have BX3 := H6
          have HB3 := HB
          have HR3 : Hid (w'.ownsRow (w.heap.size + 1) 53 6 v (ck.passesTo wd hg 5).length (ck.passCells wd hg (ck.passesTo wd hg 5))) := Lib.hid (by rw [HS9]; exact HR.out)
          clear HS9
          go_wp2_with (with_reducible refine wpList_store_row rfl 53 _ _ rfl w.heap.size _ rfl rfl 53 _ BX3.out (passSize _ _ _ _ _ _) (passSz _ _ _ _ _ _ _ _ _ _ _ _) (passOne _ _ _ _ _ _) ?_)
          refine wp_region_quiet_tail 10 (by kernel_rfl) (by kernel_rfl) ?_
          simp only [List.take_succ_cons, List.take_zero, List.drop_succ_cons, List.drop_zero]
          repeat (go_big_quiet_step (fail))
          refine wpQuiet_nil ?_
          intro _ hw'
          obtain ⟨⟨dq, osq⟩, hw''⟩ := hw'
          subst hw''
          have hbq := below_regrown w' dq osq
          generalize grow (redrawn w' dq) osq = W4 at *
          have BX4 := Lib.hid ((hbq.block _ (block_lt BX3.out)).trans BX3.out)
          have HR4 := Lib.hid (ownsRow_below HR3.out hbq)
          have HB4 := Lib.hid (HB3.out.trans (hbq.mono HB3.out.size))
          clear hbq
          refine wpList_store_row rfl 53 _ _ rfl w.heap.size _ rfl rfl 53 _ BX4.out (passSize _ _ _ _ _ _) (passSz _ _ _ _ _ _ _ _ _ _ _ _) (passOne _ _ _ _ _ _) ?_
          go_wp2_with fail
          go_step3
          refine ⟨rfl, ⟨5, PassJ.mk' (v := v) (p := ⟨1, 0, 2, 2⟩) rfl rfl rfl rfl rfl rfl rfl (by decide) rfl (setRow_heap W4 _ _ _ _ _ BX4.out) (own_kept HR4.out (grownBy_setRow _ _ _) (Nat.lt_succ_self _)) (below_setRow HB4.out (Nat.le_refl _) _) (by have := block_lt BX4.out; simpa using this)⟩, ?_⟩
          show 7 - 5 < 7 - 4
          decide
      · have HS9 : ck.passesTo wd hg 5 = ck.passesTo wd hg 4 := HS.out.trans (if_neg (fun h => h1 h.1))
        have BX3 := H6
        have HB3 := HB
        have HR3 : Hid (w'.ownsRow (w.heap.size + 1) 53 6 v (ck.passesTo wd hg 5).length (ck.passCells wd hg (ck.passesTo wd hg 5))) := Lib.hid (by rw [HS9]; exact HR.out)
        clear HS9
        go_wp2_with (with_reducible refine wpList_store_row rfl 53 _ _ rfl w.heap.size _ rfl rfl 53 _ BX3.out (passSize _ _ _ _ _ _) (passSz _ _ _ _ _ _ _ _ _ _ _ _) (passOne _ _ _ _ _ _) ?_)
        refine wp_region_quiet_tail 10 (by kernel_rfl) (by kernel_rfl) ?_
        simp only [List.take_succ_cons, List.take_zero, List.drop_succ_cons, List.drop_zero]
        repeat (go_big_quiet_step (fail))
        refine wpQuiet_nil ?_
        intro _ hw'
        obtain ⟨⟨dq, osq⟩, hw''⟩ := hw'
        subst hw''
        have hbq := below_regrown w' dq osq
        generalize grow (redrawn w' dq) osq = W4 at *
        have BX4 := Lib.hid ((hbq.block _ (block_lt BX3.out)).trans BX3.out)
        have HR4 := Lib.hid (ownsRow_below HR3.out hbq)
        have HB4 := Lib.hid (HB3.out.trans (hbq.mono HB3.out.size))
        clear hbq
        refine wpList_store_row rfl 53 _ _ rfl w.heap.size _ rfl rfl 53 _ BX4.out (passSize _ _ _ _ _ _) (passSz _ _ _ _ _ _ _ _ _ _ _ _) (passOne _ _ _ _ _ _) ?_
        go_wp2_with fail
        go_step3
        refine ⟨rfl, ⟨5, PassJ.mk' (v := v) (p := ⟨1, 0, 2, 2⟩) rfl rfl rfl rfl rfl rfl rfl (by decide) rfl (setRow_heap W4 _ _ _ _ _ BX4.out) (own_kept HR4.out (grownBy_setRow _ _ _) (Nat.lt_succ_self _)) (below_setRow HB4.out (Nat.le_refl _) _) (by have := block_lt BX4.out; simpa using this)⟩, ?_⟩
        show 7 - 5 < 7 - 4
        decide
    | 5, _ =>
      obtain rfl : p = ⟨1, 0, 2, 2⟩ := (Option.some.inj HP.out).symm
      have HS := Lib.hid (ck.passesTo_succ wd hg (k := 5) HP.out)
      have c0 := (cell_of_row _ _ 0 _ _ (0, 0) H6.out).trans rfl
      have c1 := (cell_of_row _ _ 1 _ _ (0, 0) H6.out).trans rfl
      have c2 := (cell_of_row _ _ 2 _ _ (0, 0) H6.out).trans rfl
      have c3 := (cell_of_row _ _ 3 _ _ (0, 0) H6.out).trans rfl
      by_cases h1 : (1 : Int) < wd
      · by_cases h2 : (0 : Int) < hg
        · go_wp2_with fail
          have c4 := (cell_of_row _ _ 4 _ _ (0, 0) H6.out).trans rfl
          have c5 := (cell_of_row _ _ 5 _ _ (0, 0) H6.out).trans rfl
          have f4 := frozen_of_row _ _ 4 _ _ H6.out
          have f5 := frozen_of_row _ _ 5 _ _ H6.out
          go_region
          generalize hW : World.drew _ = W2
          obtain ⟨hb2, hg2⟩ := pass_world (sx := ck.span wd 1 2) (sy := ck.span hg 0 2) H6.out hW (by unfold ck.span; omega) (by unfold ck.span; omega)
          have BX2 := Lib.hid hb2
          have HR2 := Lib.hid (own_kept HR.out hg2 (Nat.lt_succ_self _))
          have HB2 := Lib.hid (HB.out.grown hg2 HB.out.size (fun j e => by cases e; exact Nat.le_refl _))
          have hl7 := passesTo_length wd hg 5
          have HS9 : Hid (ck.passesTo wd hg 6 = ck.passesTo wd hg 5 ++ [⟨1, 0, 2, 2⟩]) := Lib.hid (HS.out.trans (if_pos ⟨h1, h2⟩))
          have HRU := Lib.hid (HR2.out.alloc (.cells #[.int .i64 1, .int .i64 0, .int .i64 2, .int .i64 2, .int .i64 (ck.span wd 1 2), .int .i64 (ck.span hg 0 2)] 53))
          have NW := Lib.hid (news_alloc W2 [.int .i64 1, .int .i64 0, .int .i64 2, .int .i64 2, .int .i64 (ck.span wd 1 2), .int .i64 (ck.span hg 0 2)] 53)
          have SZU : w.heap.size + 1 ≤ (W2.alloc (.cells #[.int .i64 1, .int .i64 0, .int .i64 2, .int .i64 2, .int .i64 (ck.span wd 1 2), .int .i64 (ck.span hg 0 2)] 53)).heap.size := by
            have := block_lt hb2
            simp
            omega
          obtain ⟨i0, hi, hz0, hz1, hz2⟩ := info_parts infoPassZ
          clear c0 c1 c2 c3 c4 c5 f4 f5 h1 h2 hW hb2 hg2
          go_wp2_with (first
            | (with_reducible refine wpList_load_row rfl 53 _ rfl w.heap.size rfl 53 _ (0, 0) _ BX2.out Tryd.underlying53 rfl (passSize _ _ _ _ _ _) ?_)
            | (at_builtin; go_must (refine wpList_append_own _ rfl _ _ 49 rfl (w.heap.size + 1) 53 i0 (.agg #[.int .i64 0, .int .i64 0, .int .i64 0, .int .i64 0, .int .i64 0, .int .i64 0]) 6 48 Tryd.underlying49 hi hz0 hz1 hz2 rfl (by decide) v (ck.passesTo wd hg 5).length _ rfl HRU.out ⟨W2.heap.size, 0, none⟩ 1 1 [.int .i64 1, .int .i64 0, .int .i64 2, .int .i64 2, .int .i64 (ck.span wd 1 2), .int .i64 (ck.span hg 0 2)] rfl rfl NW.out (by simp [Value.oneCell']) (by unfold maxLen; omega) (by omega) SZU ?_; intro v' W3 hown hgw hnil; have BX3 := Lib.hid (grown_block hgw ((Below.heap_alloc W2 _ _ (block_lt BX2.out)).trans BX2.out) (own_ne HRU.out (Nat.lt_succ_self _))); have HR3 : Hid (W3.ownsRow (w.heap.size + 1) 53 6 v' (ck.passesTo wd hg 6).length (ck.passCells wd hg (ck.passesTo wd hg 6))) := Lib.hid (by rw [HS9.out, List.length_append, passCells_snoc]; exact hown); have HB3 := Lib.hid ((HB2.out.alloc HB2.out.size _).grown hgw (HB2.out.alloc HB2.out.size _).size (fun j e => Nat.le_of_succ_le (World.ownsRow.lt HRU.out j e).1)); clear hown hgw hnil))
            | (with_reducible refine wpList_store_row rfl 53 _ _ rfl w.heap.size _ rfl rfl 53 _ BX3.out (passSize _ _ _ _ _ _) (passSz _ _ _ _ _ _ _ _ _ _ _ _) (passOne _ _ _ _ _ _) ?_))
          go_step3
          refine ⟨rfl, ⟨6, PassJ.mk' (v := v') (p := ⟨0, 1, 1, 2⟩) rfl rfl rfl rfl rfl rfl rfl (by decide) rfl (setRow_heap W3 _ _ _ _ _ BX3.out) (own_kept HR3.out (grownBy_setRow _ _ _) (Nat.lt_succ_self _)) (below_setRow HB3.out (Nat.le_refl _) _) (by have := block_lt BX3.out; simpa using this)⟩, ?_⟩
          show 7 - 6 < 7 - 5
          decide
        · have HS9 : ck.passesTo wd hg 6 = ck.passesTo wd hg 5 := HS.out.trans (if_neg (fun h => h2 h.2))
          have BX3 := H6
          have HB3 := HB
          have HR3 : Hid (w'.ownsRow (w.heap.size + 1) 53 6 v (ck.passesTo wd hg 6).length (ck.passCells wd hg (ck.passesTo wd hg 6))) := Lib.hid (by rw [HS9]; exact HR.out)
          clear HS9
          go_wp2_with (with_reducible refine wpList_store_row rfl 53 _ _ rfl w.heap.size _ rfl rfl 53 _ BX3.out (passSize _ _ _ _ _ _) (passSz _ _ _ _ _ _ _ _ _ _ _ _) (passOne _ _ _ _ _ _) ?_)
          go_step3
          refine ⟨rfl, ⟨6, PassJ.mk' (v := v) (p := ⟨0, 1, 1, 2⟩) rfl rfl rfl rfl rfl rfl rfl (by decide) rfl (setRow_heap w' _ _ _ _ _ BX3.out) (own_kept HR3.out (grownBy_setRow _ _ _) (Nat.lt_succ_self _)) (below_setRow HB3.out (Nat.le_refl _) _) (by have := block_lt BX3.out; simpa using this)⟩, ?_⟩
          show 7 - 6 < 7 - 5
          decide
      · have HS9 : ck.passesTo wd hg 6 = ck.passesTo wd hg 5 := HS.out.trans (if_neg (fun h => h1 h.1))
        have BX3 := H6
        have HB3 := HB
        have HR3 : Hid (w'.ownsRow (w.heap.size + 1) 53 6 v (ck.passesTo wd hg 6).length (ck.passCells wd hg (ck.passesTo wd hg 6))) := Lib.hid (by rw [HS9]; exact HR.out)
        clear HS9
        go_wp2_with (with_reducible refine wpList_store_row rfl 53 _ _ rfl w.heap.size _ rfl rfl 53 _ BX3.out (passSize _ _ _ _ _ _) (passSz _ _ _ _ _ _ _ _ _ _ _ _) (passOne _ _ _ _ _ _) ?_)
        go_step3
        refine ⟨rfl, ⟨6, PassJ.mk' (v := v) (p := ⟨0, 1, 1, 2⟩) rfl rfl rfl rfl rfl rfl rfl (by decide) rfl (setRow_heap w' _ _ _ _ _ BX3.out) (own_kept HR3.out (grownBy_setRow _ _ _) (Nat.lt_succ_self _)) (below_setRow HB3.out (Nat.le_refl _) _) (by have := block_lt BX3.out; simpa using this)⟩, ?_⟩
        show 7 - 6 < 7 - 5
        decide
    | 6, _ =>
      obtain rfl : p = ⟨0, 1, 1, 2⟩ := (Option.some.inj HP.out).symm
      have HS := Lib.hid (ck.passesTo_succ wd hg (k := 6) HP.out)
      have c0 := (cell_of_row _ _ 0 _ _ (0, 0) H6.out).trans rfl
      have c1 := (cell_of_row _ _ 1 _ _ (0, 0) H6.out).trans rfl
      have c2 := (cell_of_row _ _ 2 _ _ (0, 0) H6.out).trans rfl
      have c3 := (cell_of_row _ _ 3 _ _ (0, 0) H6.out).trans rfl
      by_cases h1 : (0 : Int) < wd
      · by_cases h2 : (1 : Int) < hg
        · go_wp2_with fail
          have c4 := (cell_of_row _ _ 4 _ _ (0, 0) H6.out).trans rfl
          have c5 := (cell_of_row _ _ 5 _ _ (0, 0) H6.out).trans rfl
          have f4 := frozen_of_row _ _ 4 _ _ H6.out
          have f5 := frozen_of_row _ _ 5 _ _ H6.out
          go_region
          generalize hW : World.drew _ = W2
          obtain ⟨hb2, hg2⟩ := pass_world (sx := ck.span wd 0 1) (sy := ck.span hg 1 2) H6.out hW (by unfold ck.span; omega) (by unfold ck.span; omega)
          have BX2 := Lib.hid hb2
          have HR2 := Lib.hid (own_kept HR.out hg2 (Nat.lt_succ_self _))
          have HB2 := Lib.hid (HB.out.grown hg2 HB.out.size (fun j e => by cases e; exact Nat.le_refl _))
          have hl7 := passesTo_length wd hg 6
          have HS9 : Hid (ck.passesTo wd hg 7 = ck.passesTo wd hg 6 ++ [⟨0, 1, 1, 2⟩]) := Lib.hid (HS.out.trans (if_pos ⟨h1, h2⟩))
          have HRU := Lib.hid (HR2.out.alloc (.cells #[.int .i64 0, .int .i64 1, .int .i64 1, .int .i64 2, .int .i64 (ck.span wd 0 1), .int .i64 (ck.span hg 1 2)] 53))
          have NW := Lib.hid (news_alloc W2 [.int .i64 0, .int .i64 1, .int .i64 1, .int .i64 2, .int .i64 (ck.span wd 0 1), .int .i64 (ck.span hg 1 2)] 53)
          have SZU : w.heap.size + 1 ≤ (W2.alloc (.cells #[.int .i64 0, .int .i64 1, .int .i64 1, .int .i64 2, .int .i64 (ck.span wd 0 1), .int .i64 (ck.span hg 1 2)] 53)).heap.size := by
            have := block_lt hb2
            simp
            omega
          obtain ⟨i0, hi, hz0, hz1, hz2⟩ := info_parts infoPassZ
          clear c0 c1 c2 c3 c4 c5 f4 f5 h1 h2 hW hb2 hg2
          go_wp2_with (first
            | (with_reducible refine wpList_load_row rfl 53 _ rfl w.heap.size rfl 53 _ (0, 0) _ BX2.out Tryd.underlying53 rfl (passSize _ _ _ _ _ _) ?_)
            | (at_builtin; go_must (refine wpList_append_own _ rfl _ _ 49 rfl (w.heap.size + 1) 53 i0 (.agg #[.int .i64 0, .int .i64 0, .int .i64 0, .int .i64 0, .int .i64 0, .int .i64 0]) 6 48 Tryd.underlying49 hi hz0 hz1 hz2 rfl (by decide) v (ck.passesTo wd hg 6).length _ rfl HRU.out ⟨W2.heap.size, 0, none⟩ 1 1 [.int .i64 0, .int .i64 1, .int .i64 1, .int .i64 2, .int .i64 (ck.span wd 0 1), .int .i64 (ck.span hg 1 2)] rfl rfl NW.out (by simp [Value.oneCell']) (by unfold maxLen; omega) (by omega) SZU ?_; intro v' W3 hown hgw hnil; have BX3 := Lib.hid (grown_block hgw ((Below.heap_alloc W2 _ _ (block_lt BX2.out)).trans BX2.out) (own_ne HRU.out (Nat.lt_succ_self _))); have HR3 : Hid (W3.ownsRow (w.heap.size + 1) 53 6 v' (ck.passesTo wd hg 7).length (ck.passCells wd hg (ck.passesTo wd hg 7))) := Lib.hid (by rw [HS9.out, List.length_append, passCells_snoc]; exact hown); have HB3 := Lib.hid ((HB2.out.alloc HB2.out.size _).grown hgw (HB2.out.alloc HB2.out.size _).size (fun j e => Nat.le_of_succ_le (World.ownsRow.lt HRU.out j e).1)); clear hown hgw hnil))
            | (with_reducible refine wpList_store_row rfl 53 _ _ rfl w.heap.size _ rfl rfl 53 _ BX3.out (passSize _ _ _ _ _ _) (passSz _ _ _ _ _ _ _ _ _ _ _ _) (passOne _ _ _ _ _ _) ?_))
          simp only [Exit.jump]
          go_ret
          exact ⟨v', rfl, World.ownsRow.mono HR3.out (Nat.le_succ _), HB3.out⟩
        · have HS9 : ck.passesTo wd hg 7 = ck.passesTo wd hg 6 := HS.out.trans (if_neg (fun h => h2 h.2))
          have BX3 := H6
          have HB3 := HB
          have HR3 : Hid (w'.ownsRow (w.heap.size + 1) 53 6 v (ck.passesTo wd hg 7).length (ck.passCells wd hg (ck.passesTo wd hg 7))) := Lib.hid (by rw [HS9]; exact HR.out)
          clear HS9
          go_wp2_with (with_reducible refine wpList_store_row rfl 53 _ _ rfl w.heap.size _ rfl rfl 53 _ BX3.out (passSize _ _ _ _ _ _) (passSz _ _ _ _ _ _ _ _ _ _ _ _) (passOne _ _ _ _ _ _) ?_)
          simp only [Exit.jump]
          go_ret
          exact ⟨v, rfl, World.ownsRow.mono HR3.out (Nat.le_succ _), HB3.out⟩
      · have HS9 : ck.passesTo wd hg 7 = ck.passesTo wd hg 6 := HS.out.trans (if_neg (fun h => h1 h.1))
        have BX3 := H6
        have HB3 := HB
        have HR3 : Hid (w'.ownsRow (w.heap.size + 1) 53 6 v (ck.passesTo wd hg 7).length (ck.passCells wd hg (ck.passesTo wd hg 7))) := Lib.hid (by rw [HS9]; exact HR.out)
        clear HS9
        go_wp2_with (with_reducible refine wpList_store_row rfl 53 _ _ rfl w.heap.size _ rfl rfl 53 _ BX3.out (passSize _ _ _ _ _ _) (passSz _ _ _ _ _ _ _ _ _ _ _ _) (passOne _ _ _ _ _ _) ?_)
        simp only [Exit.jump]
        go_ret
        exact ⟨v, rfl, World.ownsRow.mono HR3.out (Nat.le_succ _), HB3.out⟩
  · intro hrest
    go_wp2_with (with_reducible refine wpList_store_row rfl 53 _ _ rfl w.heap.size _ rfl rfl 53 _ (heap_alloc_last _ _) (passSize _ _ _ _ _ _) (passSz _ _ _ _ _ _ _ _ _ _ _ _) (passOne _ _ _ _ _ _) ?_; rw [World.setRow_alloc_new])
    go_step3
    have hJ : ∃ k, PassJ wd hg w k { tmps := #[.int .i64 wd, .int .i64 hg, undef, undef, .slice none 0 0, .slice none 0 0, .pointer (some ⟨w.heap.size, 0, none⟩), .int .i64 0, undef, .agg #[.int .i64 0, .int .i64 0, .int .i64 8, .int .i64 8, .int .i64 0, .int .i64 0], undef, undef, undef, undef, undef, undef, undef, undef, undef, undef, undef, undef, undef, undef, undef, undef, undef, undef, undef, undef, undef, undef, undef, undef, undef, undef, undef, undef, undef, undef, undef, undef, undef, undef, undef, undef, undef, undef, undef, undef, undef, undef, undef, undef, undef, undef, undef, undef, undef, undef, undef, undef, undef, undef, undef, undef, undef, undef, undef, undef, undef, undef], defers := [] } (w.alloc (.cells #[.int .i64 0, .int .i64 0, .int .i64 8, .int .i64 8, .int .i64 0, .int .i64 0] 53)) :=
      ⟨0, fun i => (#[.int .i64 wd, .int .i64 hg, undef, undef, .slice none 0 0, .slice none 0 0, .pointer (some ⟨w.heap.size, 0, none⟩), .int .i64 0, undef, .agg #[.int .i64 0, .int .i64 0, .int .i64 8, .int .i64 8, .int .i64 0, .int .i64 0]] : Array Value).getD i undef, .slice none 0 0, ⟨0, 0, 8, 8⟩, rfl, rfl, rfl, rfl, rfl, rfl, rfl, by decide, rfl, heap_alloc_last _ _, World.ownsRow_nil _ _ _ _, (Below.refl _ _).alloc (Nat.le_refl _) _, by simp⟩
    rename_i hK1
    exact hK1 _ _ (hrest _ _ hJ)
end Go.Proofs.YtfaemhmefijaoaaDoor
