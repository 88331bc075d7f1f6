/- Rows unfiltered: the walk of Unfilter. -/
import Derived.Test.YtfaemhmefijaoaaDoorCkUnf0
import Derived.Lib.QuietBelow
namespace Go.Proofs.YtfaemhmefijaoaaDoor
open Go.RowKit Go.Sort Go.Shelf
attribute [local go_sem] Oper.semAt_some

theorem make8in (n : Nat) (hn : n ≤ 140737488355328) (w : World) : (Instr.makeSlice 22 (.int .i64 0) (.int .i64 (n : Int))).run Tryd.prog w = .ok (.slice (some ⟨w.heap.size, 0, none⟩) 0 n) (w.alloc (.cells (madeCells #[.int .u8 0] n) 5)) := by
  obtain ⟨i0, hi, hz0, hz1, hz2⟩ := info_parts infoByte
  have hr := run_make (P := Tryd.prog) w 22 5 i0 (.int .u8 0) Tryd.underlying22 hi hz0 .i64 .i64 0 n (by omega) (by omega) (by rw [hz2]; omega) (by omega)
  rw [hz1] at hr
  simp only [Int.toNat_zero, Int.toNat_natCast, Nat.mul_one] at hr
  exact hr
theorem heap4' (w : World) (A B C D : Obj) : (((((w.alloc A).alloc B).alloc C).alloc D).heap[w.heap.size]? = some A ∧ ((((w.alloc A).alloc B).alloc C).alloc D).heap[w.heap.size + 1]? = some B ∧ ((((w.alloc A).alloc B).alloc C).alloc D).heap[w.heap.size + 1 + 1]? = some C ∧ ((((w.alloc A).alloc B).alloc C).alloc D).heap[w.heap.size + 1 + 1 + 1]? = some D) ∧ ((((w.alloc A).alloc B).alloc C).alloc D).heap.size = w.heap.size + 1 + 1 + 1 + 1 := by
  obtain ⟨⟨h1, h2, h3⟩, h4⟩ := heap3' w A B C
  refine ⟨⟨?_, ?_, ?_, ?_⟩, by simp⟩
  · exact (Below.heap_alloc _ _ _ (block_lt h1)).trans h1
  · exact (Below.heap_alloc _ _ _ (block_lt h2)).trans h2
  · exact (Below.heap_alloc _ _ _ (block_lt h3)).trans h3
  · have := heap_alloc_new (((w.alloc A).alloc B).alloc C) D
    rwa [h4] at this
theorem below4 (w : World) (A B C D : Obj) : Below w.heap.size w ((((w.alloc A).alloc B).alloc C).alloc D) :=
  (below3 w A B C).alloc (by simp; omega) D
theorem two_stores {w : World} {g g' : Nat} {old old' v v' : Value} {t t' : TypeId} (hne : g ≠ g') (hg : w.heap[g]? = some (.cells #[old] t (0, 0))) (hg' : w.heap[g']? = some (.cells #[old'] t' (0, 0))) :
    ((w.setCell ⟨g, 0, none⟩ v).setCell ⟨g', 0, none⟩ v').heap[g]? = some (.cells #[v] t (0, 0)) ∧ ((w.setCell ⟨g, 0, none⟩ v).setCell ⟨g', 0, none⟩ v').heap[g']? = some (.cells #[v'] t' (0, 0)) := by
  have k1 := grownBy_setCell3 w g 0 v
  have k2 := grownBy_setCell3 (w.setCell ⟨g, 0, none⟩ v) g' 0 v'
  exact ⟨grown_block k2 (heap_setCell_same w g 0 _ _ v hg) (some_ne hne), heap_setCell_same _ g' 0 _ _ v' (grown_block k1 hg' (some_ne (Ne.symm hne)))⟩
theorem below_two {w0 w : World} {n g g' : Nat} {v v' : Value} (h : Below n w0 w) (h1 : n ≤ g) (h2 : n ≤ g') : Below n w0 ((w.setCell ⟨g, 0, none⟩ v).setCell ⟨g', 0, none⟩ v') :=
  (h.setCell (p := ⟨g, 0, none⟩) h1 v).setCell (p := ⟨g', 0, none⟩) h2 v'

/-- left with a wrong kind -/
def UnfX (w : World) (wn : Nat) (l : List Int) (m : Nat) (c : Code) (W : World) : Prop :=
  c = .ret ∧ (∃ k, k < m ∧ ¬ l.getD (k * (wn + 1)) 0 ≤ 4) ∧ W.heap[w.heap.size + 1]? = some (.cells #[.slice none 0 0] 22 (0, 0)) ∧ W.heap[w.heap.size + 1 + 1]? = some (.cells #[.int .i64 9] 25 (0, 0)) ∧ Below w.heap.size w W
theorem UnfX.own {w : World} {wn : Nat} {l : List Int} {m n : Nat} {α : Type} (hn : w.heap.size ≤ n) (c : Code) : OwnFrom n (fun (_ : List α) W => UnfX w wn l m c W) := by
  intro s A B row hs hg hr
  have hr' : ∀ r, row = some r → ∃ o : Obj, A.heap[r]? = some o ∧ o.isCells = false := fun r e => (hr r e).2
  obtain ⟨h1, h2, h3, h4, h5⟩ := hs
  exact ⟨h1, h2, own_heap hg hr' h3, own_heap hg hr' h4, h5.grown hg h5.size (fun k e => Nat.le_trans hn (hr k e).1)⟩

/-- the row above, as it can be read -/
theorem uV_cells {w : World} {g cap ob ab wn bn z : Nat} {l : List Int} {fix : List (Nat × Array Value × TypeId)} (hz : (z, madeCells #[.int .u8 0] wn, 5) ∈ fix) (pre : List Nat) : ∃ ag ao ac, ck.uV g z wn cap pre.length = .slice (some ⟨ag, ao, none⟩) wn ac ∧
    ∀ (W : World) (oo : List Int) (va : Value), RowsG w g cap fix ob ab ((ck.uSt wn bn l pre).1 ++ oo) va W → ∀ x, x < wn → W.cell? ⟨ag, ao + x, none⟩ = some (.int .u8 ((ck.uSt wn bn l pre).2.getD x 0)) := by
  rcases List.eq_nil_or_concat pre with rfl | ⟨pre, y, hpre⟩
  · refine ⟨z, 0, wn, rfl, fun W oo va hW x hx => ?_⟩
    rw [Nat.zero_add, cell_of_row _ _ _ _ _ _ (hW.fix _ hz)]
    have h1 : (madeCells #[.int .u8 0] wn)[x]? = (madeCells #[.int .u8 0] wn).toList[x]? := by simp
    rw [h1, toList_madeCells_one]
    simp [hx, ck.uSt, List.getD_eq_getElem?_getD]
  · rw [List.concat_eq_append] at hpre
    subst hpre
    refine ⟨g, pre.length * wn, cap - pre.length * wn, ?_, fun W oo va hW x hx => ?_⟩
    · rw [List.length_append]
      show ck.uV _ _ _ _ (pre.length + 1) = _
      unfold ck.uV
      rw [if_neg (by omega), Nat.add_sub_cancel]
    · have hl : (ck.uSt wn bn l (pre ++ [y])).1.length = pre.length * wn + wn := by
        rw [ck.uSt_length, List.length_append]
        show (pre.length + 1) * wn = _
        rw [Nat.succ_mul]
      have := hW.cell (i := pre.length * wn + x) (by rw [List.length_append, hl]; omega)
      rw [this, ck.uSt_above, List.getD_eq_getElem?_getD, List.getD_eq_getElem?_getD, List.getElem?_append_left (by omega)]
theorem uSt_bytes {wn bn : Nat} {l : List Int} (pre : List Nat) : ∀ v ∈ (ck.uSt wn bn l pre).2, 0 ≤ v ∧ v < 256 := by
  rcases List.eq_nil_or_concat pre with rfl | ⟨pre, y, hpre⟩
  · intro v hv
    rw [List.eq_of_mem_replicate hv]
    decide
  · rw [List.concat_eq_append] at hpre
    subst hpre
    rw [ck.uSt_snoc]
    exact ck.uTo_byte _ _ _ _ _

set_option maxRecDepth 100000 in
set_option maxHeartbeats 6400000 in
theorem unfilter_yes (p : Option Addr) (b off n cap wn bn m : Nat) (l : List Int) (w : World) (h : Sl .u8 w p n cap l) (hp : n = 0 ∨ p = some ⟨b, off, none⟩) (hw1 : 1 ≤ wn) (hw2 : wn ≤ 1048576) (hb1 : 1 ≤ bn) (hb2 : bn ≤ 8) (hnm : n = m * (wn + 1)) (hn : n ≤ 140737488355328) (E : Int) (O : List Int) (hE : E = if ck.kindsOk wn l m then 0 else 9) (hO : O = if ck.kindsOk wn l m then ck.unfTo wn bn l m else []) :
    Calls Tryd.prog 21 #[.slice p n cap, .int .i64 wn, .int .i64 bn] w (UnfPost E O w) := by
  have HE := Lib.hid hE
  have HO := Lib.hid hO
  clear hE hO
  have HM := Lib.hid h
  have HNM := Lib.hid hnm
  have hfit := h.fits
  have HF : Hid (ck.fitB wn bn = true) := Lib.hid (decide_eq_true ⟨by omega, by omega, by omega, by omega⟩)
  have k0 : IntKind.i64.wrap ((wn : Int) + 1) = ((wn + 1 : Nat) : Int) := IntWalk.i64_in _ (by omega)
  have k3 : (((n : Int) % ((wn : Int) + 1)) != 0) = false := by
    rw [show ((wn : Int) + 1) = ((wn + 1 : Nat) : Int) by omega, ← Int.natCast_emod, hnm, Nat.mul_mod_left]
    rfl
  obtain ⟨sn, hsn⟩ : ∃ sn : Nat, sn = wn + 1 := ⟨_, rfl⟩
  have hsi : (wn : Int) + 1 = (sn : Int) := by omega
  rw [← hsn] at hnm
  have HNS := Lib.hid hnm
  have HSN := Lib.hid hsn
  have HSI := Lib.hid hsi
  have hs1 : 1 ≤ sn := by omega
  have hs2 : sn ≤ 1048577 := by omega
  clear h hnm hsi hsn
  refine (callsIn_wide (n := 6)).1 (callsIn_of_wp_marks Tryd.func21 rfl trivial ?_ rfl)
  simp only [Tryd.ntmps21, List.size_toArray, List.length_cons, List.length_nil, Nat.reduceAdd, Nat.reduceSub, Array.replicate_succ, Array.replicate_zero, List.push_toArray, List.append_toArray, List.nil_append, List.cons_append]
  refine wpIn_wide.2 ?_
  obtain ⟨⟨q0, q1, q2⟩, SZ0⟩ := heap3' w (.cells #[.int .i64 bn] 3) (.cells #[.slice none 0 0] 22) (.cells #[.int .i64 0] 25)
  have B0 := below3 w (.cells #[.int .i64 bn] 3) (.cells #[.slice none 0 0] 22) (.cells #[.int .i64 0] 25)
  go_wp2_with fail
  generalize ((w.alloc (.cells #[.int .i64 bn] 3)).alloc (.cells #[.slice none 0 0] 22)).alloc (.cells #[.int .i64 0] 25) = w0 at *
  have Q0 := Lib.hid q0
  have Q1 := Lib.hid q1
  have Q2 := Lib.hid q2
  have BB0 := Lib.hid B0
  have HSZ0 := Lib.hid SZ0
  clear q0 q1 q2 B0 SZ0
  refine (fit_any _ _ _).mono ?_
  rintro e w1 ⟨rfl, rfl⟩
  rw [HF.out]
  have mk1 := fun u => make8in n hn u
  have mk2 := fun u => make8 wn (by omega) u
  go_wp2_with fail
  rw [HSI.out]
  clear mk1 mk2 k0 k3
  obtain ⟨⟨p0, p1, p2, p3⟩, p4⟩ := heap4' w0 (.cells (madeCells #[.int .u8 0] n) 5) (.cells #[.slice (some ⟨w0.heap.size, 0, none⟩) 0 n] 22) (.cells (madeCells #[.int .u8 0] wn) 5) (.cells #[.slice (some ⟨w0.heap.size + 1 + 1, 0, none⟩) wn wn] 22)
  have B3 := below4 w0 (.cells (madeCells #[.int .u8 0] n) 5) (.cells #[.slice (some ⟨w0.heap.size, 0, none⟩) 0 n] 22) (.cells (madeCells #[.int .u8 0] wn) 5) (.cells #[.slice (some ⟨w0.heap.size + 1 + 1, 0, none⟩) wn wn] 22)
  have OR0 : (w0.alloc (.cells (madeCells #[.int .u8 0] n) 5)).ownsRow w.heap.size 5 1 (.slice (some ⟨w0.heap.size, 0, none⟩) 0 n) 0 [] := World.ownsRow_made w0 _ n BB0.out.size (by unfold maxLen; omega) (by rw [size_madeCells]; omega)
  have OR3 := ((OR0.alloc (.cells #[.slice (some ⟨w0.heap.size, 0, none⟩) 0 n] 22)).alloc (.cells (madeCells #[.int .u8 0] wn) 5)).alloc (.cells #[.slice (some ⟨w0.heap.size + 1 + 1, 0, none⟩) wn wn] 22)
  clear OR0
  generalize (((w0.alloc (.cells (madeCells #[.int .u8 0] n) 5)).alloc (.cells #[.slice (some ⟨w0.heap.size, 0, none⟩) 0 n] 22)).alloc (.cells (madeCells #[.int .u8 0] wn) 5)).alloc (.cells #[.slice (some ⟨w0.heap.size + 1 + 1, 0, none⟩) wn wn] 22) = w3 at *
  have P1 := Lib.hid p1
  have P2 := Lib.hid p2
  have P3 := Lib.hid p3
  have HOR := Lib.hid OR3
  have HSZ3 := Lib.hid p4
  have HB3 := Lib.hid (BB0.out.trans (B3.mono BB0.out.size))
  have T0 := Lib.hid ((B3.block _ (block_lt Q0.out)).trans Q0.out)
  have T1 := Lib.hid ((B3.block _ (block_lt Q1.out)).trans Q1.out)
  have T2 := Lib.hid ((B3.block _ (block_lt Q2.out)).trans Q2.out)
  clear p0 p1 p2 p3 p4 B3 Q0 Q1 Q2 BB0 OR3
  refine (chunkN_any _ _ _ _ hs1 _).mono ?_
  rintro e w4 ⟨rfl, rfl⟩
  go_wp2_with fail
  refine (wpIn_wide (n := 6)).1 ?_
  obtain ⟨p0, p1⟩ := heap2 w3 (.cells #[.slice p n cap] 22) (.cells #[.int .i64 sn] 3)
  have B4 := (((Below.refl w3.heap.size w3).alloc (Nat.le_refl _) (.cells #[.slice p n cap] 22)).alloc (by simp) (.cells #[.int .i64 sn] 3))
  have SZ4 : ((w3.alloc (.cells #[.slice p n cap] 22)).alloc (.cells #[.int .i64 sn] 3)).heap.size = w3.heap.size + 1 + 1 := by simp
  have OR4 := (HOR.out.alloc (.cells #[.slice p n cap] 22)).alloc (.cells #[.int .i64 sn] 3)
  generalize (w3.alloc (.cells #[.slice p n cap] 22)).alloc (.cells #[.int .i64 sn] 3) = w4 at *
  have hch : chunks n sn = m := by rw [HNS.out]; exact chunks_mul hs1
  have HCH := Lib.hid hch
  clear hch
  have z0 := HSZ0.out
  have z3 := HSZ3.out
  have B4w := Lib.hid (HB3.out.trans (B4.mono HB3.out.size))
  have X1 := Lib.hid ((B4.block _ (block_lt P1.out)).trans P1.out)
  have X2 := Lib.hid ((B4.block _ (block_lt P2.out)).trans P2.out)
  have X3 := Lib.hid ((B4.block _ (block_lt P3.out)).trans P3.out)
  have Y0 := Lib.hid ((B4.block _ (block_lt T0.out)).trans T0.out)
  have Y1 := Lib.hid ((B4.block _ (block_lt T1.out)).trans T1.out)
  have Y2 := Lib.hid ((B4.block _ (block_lt T2.out)).trans T2.out)
  obtain ⟨fix, hfx⟩ : ∃ x : List (Nat × Array Value × TypeId), x = [(w.heap.size, #[.int .i64 bn], 3), (w.heap.size + 1, #[.slice none 0 0], 22), (w.heap.size + 1 + 1, #[.int .i64 0], 25), (w0.heap.size + 1 + 1, madeCells #[.int .u8 0] wn, 5), (w3.heap.size, #[.slice p n cap], 22), (w3.heap.size + 1, #[.int .i64 sn], 3)] := ⟨_, rfl⟩
  have HFX := Lib.hid hfx
  have hRA : RowsGAt w w0.heap.size fix (w0.heap.size + 1) (w0.heap.size + 1 + 1 + 1) := by
    refine ⟨by omega, by omega, by omega, by omega, by omega, by omega, fun p hp => ?_⟩
    rw [hfx] at hp
    simp only [List.mem_cons, List.not_mem_nil, or_false] at hp
    rcases hp with rfl | rfl | rfl | rfl | rfl | rfl <;> refine ⟨?_, ?_, ?_⟩ <;> dsimp only <;> omega
  have HRA := Lib.hid hRA
  have hI0 : RowsG w w0.heap.size n fix (w0.heap.size + 1) (w0.heap.size + 1 + 1 + 1) (ck.uSt wn bn l []).1 (ck.uV w0.heap.size (w0.heap.size + 1 + 1) wn n 0) w4 := by
    refine ⟨fun p hp => ?_, X3.out, X1.out, OR4, B4w.out⟩
    rw [hfx] at hp
    simp only [List.mem_cons, List.not_mem_nil, or_false] at hp
    rcases hp with rfl | rfl | rfl | rfl | rfl | rfl
    · exact Y0.out
    · exact Y1.out
    · exact Y2.out
    · exact X2.out
    · exact p0
    · exact p1
  have HI0 := Lib.hid hI0
  have c1 := (cell_of_row _ _ 0 _ _ (0, 0) p0).trans rfl
  have c2 := (cell_of_row _ _ 0 _ _ (0, 0) p1).trans rfl
  clear hRA hI0 hfx p0 p1 X1 X2 X3 Y0 Y1 Y2 T0 T1 T2 P1 P2 P3 OR4 HOR
  refine wpIn_rangeFunc_ownF rfl (by omega) (gf := 52) (lb := #[.pointer (some ⟨w3.heap.size, 0, none⟩), .pointer (some ⟨w3.heap.size + 1, 0, none⟩)]) rfl trivial (enters_of Tryd.func52 (by kernel_rfl) rfl)
    (chunk_stops 5 w3.heap.size (w3.heap.size + 1) _ n cap sn hs1 (by omega) HM.out.fits (by omega) w4 (by omega) (by omega) b off hp c1 c2) (fun h k => h.trans k) (KeepsTwo.put (by omega) (by omega)) (Below.refl _ _) (fun _ => rfl)
    (fun pre W => (∀ j ∈ pre.map (·.1), l.getD (j * (wn + 1)) 0 ≤ 4) ∧ RowsG w w0.heap.size n fix (w0.heap.size + 1) (w0.heap.size + 1 + 1 + 1) (ck.uSt wn bn l (pre.map (·.1))).1 (ck.uV w0.heap.size (w0.heap.size + 1 + 1) wn n pre.length) W)
    (fun c _ W => UnfX w wn l m c W)
    (RowsG.ownFrom (by omega) _ _ _)
    (fun c => UnfX.own (by omega) c)
    ⟨(fun _ h => nomatch h), HI0.out⟩
    (fun x => { tmps := #[.slice p n cap, .int .i64 wn, .int .i64 bn, undef, undef, .pointer (some ⟨w.heap.size, 0, none⟩), .pointer (some ⟨w.heap.size + 1, 0, none⟩), .pointer (some ⟨w.heap.size + 1 + 1, 0, none⟩), .pointer (some ⟨w0.heap.size + 1, 0, none⟩), .pointer (some ⟨w0.heap.size + 1 + 1 + 1, 0, none⟩), chunkV b off n sn x.1, undef, undef, undef, undef, undef, .int .i64 wn, .int .i64 bn, .bool true, .bool false, .slice p n cap, .int .i64 n, .int .i64 wn, .int .i64 sn, .int .i64 ((n : Int) % (sn : Int)), .bool false, .slice p n cap, .int .i64 n, .slice (some ⟨w0.heap.size, 0, none⟩) 0 n, .int .i64 wn, .slice (some ⟨w0.heap.size + 1 + 1, 0, none⟩) wn wn, .slice p n cap, .int .i64 wn, .int .i64 sn, .func (.func 52) #[] #[.pointer (some ⟨w3.heap.size, 0, none⟩), .pointer (some ⟨w3.heap.size + 1, 0, none⟩)], chunkV b off n sn x.1, undef, undef, undef, undef, undef, undef, undef, undef, undef, undef, undef, undef, undef, undef, undef, undef, undef, undef, undef, undef, undef, undef, undef, undef, undef, undef, undef, undef, undef, undef, undef, undef, undef, undef, undef, undef, undef, undef, undef, undef, undef, undef, undef, undef, undef, undef, undef, undef, undef, undef, undef], defers := [] }) ?assign ?body ?done ?stop
  case assign =>
    intro l x W K hK
    clear z0 z3 SZ4
    gi_wp2
    exact hK
  case body =>
    rintro lr pre ⟨xi, hxi⟩ W1 ⟨hkk, hI⟩ hlen
    dsimp only
    have HKK := Lib.hid hkk
    have HI := Lib.hid hI
    have hxm : xi < m := by rw [← HCH.out]; exact hxi
    have hn0 : ¬ n = 0 := by
      have h1 : 1 * 1 ≤ m * sn := Nat.mul_le_mul (by omega) hs1
      rw [HNS.out]
      omega
    rcases hp with h0 | rfl
    · exact absurd h0 hn0
    clear hn0 hkk
    have hcv : chunkV b off n sn xi = .slice (some ⟨b, off + xi * sn, none⟩) sn sn := by rw [HNS.out]; exact chunkV_mul hxm
    obtain ⟨o4, ho4⟩ : ∃ x, off + xi * sn = x := ⟨_, rfl⟩
    have hfi : xi * sn + sn ≤ n := by
      have h1 : (xi + 1) * sn ≤ m * sn := Nat.mul_le_mul_right _ hxm
      rw [Nat.succ_mul, ← HNS.out] at h1
      exact h1
    obtain ⟨kd, hkd⟩ : ∃ x, l.getD (xi * (wn + 1)) 0 = x := ⟨_, rfl⟩
    have HRK : Hid (∀ W : World, Below w.heap.size w W → W.cell? ⟨b, o4, none⟩ = some (.int .u8 kd)) := Lib.hid (fun W hW => by
      have := (HM.out.below hW).rd.cell (xi * sn) (by rw [HM.out.len]; omega)
      rw [← hkd, ← ho4, ← HSN.out]
      exact this)
    have HKB : Hid (ck.byteI kd) := Lib.hid (by rw [← hkd]; exact byte_getD HM.out.bytes _)
    have hx1 := HRK.out W1 hI.below
    rw [hcv, ho4]
    by_cases hk4 : kd ≤ 4
    · have hg4 : ¬ (4 < kd) := by omega
      obtain ⟨o1, ho1⟩ : ∃ x, (ck.uSt wn bn l (pre.map (·.1))).1 = x := ⟨_, rfl⟩
      obtain ⟨ab, hab⟩ : ∃ x, (ck.uSt wn bn l (pre.map (·.1))).2 = x := ⟨_, rfl⟩
      obtain ⟨raw, hraw⟩ : ∃ x, (l.drop (xi * (wn + 1) + 1)).take wn = x := ⟨_, rfl⟩
      obtain ⟨fl, hfl⟩ : ∃ x, x = o1.length := ⟨_, rfl⟩
      have hol : fl = pre.length * wn := by rw [hfl, ← ho1, ck.uSt_length, List.length_map]
      have hole : fl + wn ≤ n := by
        have h1 : (pre.length + 1) * wn ≤ m * wn := Nat.mul_le_mul_right _ (by rw [← HCH.out]; exact hlen)
        have h2 : m * wn ≤ m * sn := Nat.mul_le_mul_left _ (by have := HSN.out; omega)
        rw [Nat.succ_mul, ← hol] at h1
        rw [HNS.out]
        omega
      obtain ⟨ag, ao, ac, hav, hac⟩ := uV_cells (w := w) (g := w0.heap.size) (cap := n) (fix := fix) (ob := w0.heap.size + 1) (ab := w0.heap.size + 1 + 1 + 1) (wn := wn) (bn := bn) (l := l) (z := w0.heap.size + 1 + 1) (by rw [HFX.out]; simp) (pre.map (·.1))
      rw [List.length_map] at hav
      rw [ho1, hab] at hac
      have HAC : Hid (∀ (W : World) (oo : List Int) {va : Value}, RowsG w w0.heap.size n fix (w0.heap.size + 1) (w0.heap.size + 1 + 1 + 1) (o1 ++ oo) va W → ∀ x, x < wn → W.cell? ⟨ag, ao + x, none⟩ = some (.int .u8 (ab.getD x 0))) := Lib.hid (fun W oo va hW x hx => hac W oo va hW x hx)
      have HRC : Hid (∀ W : World, Below w.heap.size w W → ∀ x, x < wn → W.cell? ⟨b, o4 + 1 + x, none⟩ = some (.int .u8 (raw.getD x 0))) := Lib.hid (fun W hW x hx => by
        have := (HM.out.below hW).rd.cell (xi * sn + 1 + x) (by have := HSN.out; rw [HM.out.len]; omega)
        rw [← ho4, ← hraw, show off + xi * sn + 1 + x = off + (xi * sn + 1 + x) by omega, this, List.getD_eq_getElem?_getD, List.getD_eq_getElem?_getD, List.getElem?_take, if_pos hx, List.getElem?_drop, ← HSN.out])
      have HABB : Hid (∀ x, ck.byteI (ab.getD x 0)) := Lib.hid (by rw [← hab]; exact fun x => byte_getD (uSt_bytes _) x)
      have HNX : Hid (ck.uSt wn bn l ((pre ++ [(⟨xi, hxi⟩ : ChIx n sn)]).map (·.1)) = (o1 ++ ck.uTo kd bn ab raw wn, ck.uTo kd bn ab raw wn)) := Lib.hid (by rw [List.map_append, List.map_cons, List.map_nil, ck.uSt_snoc, ck.uStep, ho1, hab, hraw, hkd])
      have HAX : Hid (ck.uV w0.heap.size (w0.heap.size + 1 + 1) wn n (pre ++ [(⟨xi, hxi⟩ : ChIx n sn)]).length = .slice (some ⟨w0.heap.size, fl, none⟩) wn (n - fl)) := Lib.hid (by rw [List.length_append]; show ck.uV _ _ _ _ (pre.length + 1) = _; unfold ck.uV; rw [if_neg (by omega), Nat.add_sub_cancel, ← hol])
      have HK4 : Hid (∀ j ∈ (pre ++ [(⟨xi, hxi⟩ : ChIx n sn)]).map (·.1), l.getD (j * (wn + 1)) 0 ≤ 4) := Lib.hid (fun j hj => by
        rw [List.map_append, List.map_cons, List.map_nil] at hj
        rcases List.mem_append.1 hj with h | h
        · exact HKK.out j h
        · rw [List.mem_singleton.1 h, hkd]; exact hk4)
      rw [ho1, hav] at hI
      have HI1 := Lib.hid hI
      have hb8 := hI.box
      rw [← hfl] at hb8
      have k8 := (cell_of_row _ _ 0 _ _ (0, 0) hb8).trans rfl
      have HFL := Lib.hid hfl
      have HOLE := Lib.hid hole
      have HSZ4 := Lib.hid SZ4
      have HXI := Lib.hid hxm
      have hsn1 : (1 : Int) ≤ (sn : Int) := by omega
      have hsw : sn - 1 = wn := by have := HSN.out; omega
      have hsw2 : (sn : Int) - 1 = (wn : Int) := by omega
      have hsw3 : ¬ sn = 1 := by omega
      clear hI hcv hav hac ho1 hab hraw ho4 hfl hol hole hb8 z0 z3 SZ4 c1 c2 hlen hxm hkd hfi
      gi_wp2
      clear k8 hx1
      gi_loopg [45] wn (fun gk i wr => ∃ x : Nat, x ≤ wn ∧ gk = wn - x ∧ i = .int .i64 x ∧ RowsG w w0.heap.size n fix (w0.heap.size + 1) (w0.heap.size + 1 + 1 + 1) (o1 ++ ck.uTo kd bn ab raw x) (.slice (some ⟨ag, ao, none⟩) wn ac) wr ∧ KeepsOthers W1 wr)
      case atStart => exact ⟨0, Nat.zero_le _, rfl, rfl, by rw [ck.uTo, List.append_nil]; exact HI1.out, KeepsOthers.refl _⟩
      case round =>
        obtain ⟨x, hx, hg, rfl, hIx, hko⟩ := hrel
        have Hg := Lib.hid hg
        have HIx := Lib.hid hIx
        have KOx := Lib.hid hko
        obtain ⟨nq, hnq⟩ : ∃ y, y = (o1 ++ ck.uTo kd bn ab raw x).length := ⟨_, rfl⟩
        have HNQ := Lib.hid hnq
        have hnq2 : nq = fl + x := by rw [hnq, List.length_append, ck.uTo_length, HFL.out]
        have hole := HOLE.out
        clear hg hIx hko hnq
        by_cases hlt : x < wn
        · have xr := HRC.out wr HIx.out.below x hlt
          obtain ⟨rv, hrv⟩ : ∃ y, raw.getD x 0 = y := ⟨_, rfl⟩
          rw [hrv] at xr
          have HRV := Lib.hid hrv
          clear hrv
          obtain ⟨fb, hfb⟩ : ∃ y, y = (raw.getD x 0 + ck.gs kd (ck.px (ck.uTo kd bn ab raw x) x bn) (ab.getD x 0) (ck.px ab x bn)) % 256 := ⟨_, rfl⟩
          have HFBV2 := Lib.hid hfb
          clear hfb
          have x6 : wr.cell? ⟨w.heap.size, 0, none⟩ = some (.int .i64 bn) := (cell_of_row _ _ 0 _ _ (0, 0) (HIx.out.fix (w.heap.size, #[.int .i64 bn], 3) (by rw [HFX.out]; simp))).trans rfl
          have HSM : Hid (nq + 1 ≤ n) := Lib.hid (by omega)
          have hnqi : nq = fl + x := hnq2
          clear hnq2
          by_cases hge : bn ≤ x
          · have hgi : (bn : Int) ≤ (x : Int) := by omega
            obtain ⟨d, hd⟩ : ∃ d, d = x - bn := ⟨_, rfl⟩
            have hdx : (x : Int) - (bn : Int) = (d : Int) := by omega
            have hdf : (fl : Int) + (x : Int) - (bn : Int) = ((fl + d : Nat) : Int) := by omega
            have hdn : d < wn := by omega
            have hdq : fl + d < nq := by omega
            clear hnqi
            have xd := HIx.out.cell (i := fl + d) (by rw [← HNQ.out]; exact hdq)
            have hxd : (o1 ++ ck.uTo kd bn ab raw x).getD (fl + d) 0 = ck.px (ck.uTo kd bn ab raw x) x bn := by
              unfold ck.px
              rw [if_pos hge, ← hd]
              exact (ck.getD_app_right HFL.out.symm).symm
            rw [hxd] at xd
            have ad := HAC.out wr _ HIx.out d hdn
            have had : ab.getD d 0 = ck.px ab x bn := by unfold ck.px; rw [if_pos hge, ← hd]
            rw [had] at ad
            obtain ⟨pa, hpa⟩ : ∃ y, ck.px (ck.uTo kd bn ab raw x) x bn = y := ⟨_, rfl⟩
            obtain ⟨pc, hpc⟩ : ∃ y, ck.px ab x bn = y := ⟨_, rfl⟩
            rw [hpa] at xd
            rw [hpc] at ad
            have HFBV : Hid (fb = (rv + ck.gs kd pa (ab.getD x 0) pc) % 256) := Lib.hid (by rw [HFBV2.out, hpa, hpc, HRV.out])
            have HPAB : Hid (ck.byteI pa) := Lib.hid (by rw [← hpa]; unfold ck.px; rw [if_pos hge]; exact byte_getD (ck.uTo_byte _ _ _ _ _) _)
            have HPCB : Hid (ck.byteI pc) := Lib.hid (by rw [← hpc, ← had]; exact HABB.out d)
            have hb8 := HIx.out.box
            rw [← HNQ.out] at hb8
            have x8 := (cell_of_row _ _ 0 _ _ (0, 0) hb8).trans rfl
            have x4 := (cell_of_row _ _ 0 _ _ (0, 0) HIx.out.above).trans rfl
            have y6 := cell_regrown x6
            have yd := cell_regrown xd
            have ya := cell_regrown ad
            have y4 := cell_regrown x4
            have y8 := cell_regrown x8
            clear hpa hpc hd hxd had hb8
            gi_wp2
            refine round_region_quiet (by rintro ⟨_, _, h⟩; exact h) (by kernel_rfl) (by kernel_rfl) (by kernel_rfl) ?_
            repeat (go_big_quiet_step (fail))
            refine wpQuiet_nil ?_
            intro _ hw'
            obtain ⟨⟨dq, osq⟩, hw''⟩ := hw'
            subst hw''
            have HBq := Lib.hid (below_regrown wr dq osq)
            clear x4 x6 xr xd ad x8 y6 yd ya y4 y8
            generalize grow (redrawn wr dq) osq = wq at *
            have HIq := Lib.hid (HIx.out.below' HBq.out)
            have KOq := Lib.hid (KOx.out.trans (keepsOthers_below HBq.out))
            clear hgi hdx hdf hdn hdq
            gi_wp2
            have hbx := HIq.out.box
            rw [← HNQ.out] at hbx
            have cob := (cell_of_row _ _ 0 _ _ (0, 0) hbx).trans rfl
            have ckd := HRK.out wq HIq.out.below
            have cab := (cell_of_row _ _ 0 _ _ (0, 0) HIq.out.above).trans rfl
            have cav := HAC.out _ _ HIq.out x hlt
            obtain ⟨av, hav⟩ : ∃ y, ab.getD x 0 = y := ⟨_, rfl⟩
            rw [hav] at cav
            obtain ⟨gv, hgv⟩ : ∃ y, ck.gs kd pa av pc = y := ⟨_, rfl⟩
            have hfb0 : fb = (rv + gv) % 256 := by rw [HFBV.out, ← hgv, ← hav]
            have HFB : Hid (IntKind.u8.wrap (rv + gv) = fb) := Lib.hid (by rw [IntKind.wrap_u8, hfb0])
            have HFBB : Hid (0 ≤ fb ∧ fb < 256) := Lib.hid (by omega)
            have HAVB : Hid (ck.byteI av) := Lib.hid (by rw [← hav]; exact HABB.out x)
            have HGV := Lib.hid hgv
            have hrq := HIq.out.row
            rw [← HNQ.out] at hrq
            have HRN := Lib.hid hrq
            clear hbx hrq hav hgv hfb0
            refine round_region_tails 14 (by rintro ⟨_, _, h⟩; exact h) (by kernel_rfl) (by decide) (D := fun i => ([67, 68, 69, 70, 71, 72, 73, 74, 75, 76, 77, 78, 79, 80] : List Nat).getD i 0)
              (R := fun i v w' => match i with
                | 0 => v = .slice (some ⟨w0.heap.size, 0, none⟩) nq n
                | 1 => v = .int .u8 rv
                | 2 => v = .slice (some ⟨b, o4, none⟩) sn sn
                | 3 => v = .pointer (some ⟨b, o4, none⟩)
                | 4 => v = .int .u8 kd
                | 5 => v = .int .u8 pa
                | 6 => v = .slice (some ⟨ag, ao, none⟩) wn ac
                | 7 => v = .int .i64 x
                | 8 => v = .pointer (some ⟨ag, ao + x, none⟩)
                | 9 => v = .int .u8 av
                | 10 => v = .int .u8 pc
                | 11 => v = .int .u8 gv
                | 12 => v = .int .u8 fb
                | 13 => ∃ g, v = .slice (some ⟨g, 0, none⟩) 1 1 ∧ Sl .u8 w' (some ⟨g, 0, none⟩) 1 1 [fb]
                | _ => True)
              (S := fun a' w' => (a'.tmps[8]? = some (.pointer (some ⟨w0.heap.size + 1, 0, none⟩)) ∧ a'.tmps[9]? = some (.pointer (some ⟨w0.heap.size + 1 + 1 + 1, 0, none⟩)) ∧ a'.tmps[10]? = some (.slice (some ⟨b, o4, none⟩) sn sn) ∧ a'.tmps[12]? = some (.int .i64 x) ∧ a'.tmps[13]? = some (.int .u8 rv) ∧ a'.tmps[14]? = some (.int .u8 pa) ∧ a'.tmps[15]? = some (.int .u8 pc)) ∧ Below wq.heap.size wq w')
              (by kernel_rfl) (by decide +kernel) (by decide +kernel) (by decide +kernel) (by decide +kernel) (by kernel_rfl) (by kernel_rfl) ?_ ?_ ?_ ?_
            · intro i v u u' h hb
              match i, h with
              | 0, h => exact h
              | 1, h => exact h
              | 2, h => exact h
              | 3, h => exact h
              | 4, h => exact h
              | 5, h => exact h
              | 6, h => exact h
              | 7, h => exact h
              | 8, h => exact h
              | 9, h => exact h
              | 10, h => exact h
              | 11, h => exact h
              | 12, h => exact h
              | 13, h => (obtain ⟨g, h1, h2⟩ := h; exact ⟨g, h1, h2.below hb⟩)
              | i + 14, _ => trivial
            · intro a' u hb _ hold
              exact ⟨⟨hold 8 (by decide), hold 9 (by decide), hold 10 (by decide), hold 12 (by decide), hold 13 (by decide), hold 14 (by decide), hold 15 (by decide)⟩, hb⟩
            · refine ⟨?_, ?_, ?_, ?_, ?_, ?_, ?_, ?_, ?_, ?_, ?_, ?_, ?_, ?_, trivial⟩
              · intro a' u hS hd
                clear hd
                have g0 := hS.1.1
                have x0 := keep_cell hS.2 cob
                go_simp
                exact ⟨_, rfl, rfl, Below.refl _ _⟩
              · intro a' u hS hd
                clear hd
                have g0 := hS.1.2.2.2.2.1
                go_simp
                exact ⟨_, rfl, rfl, Below.refl _ _⟩
              · intro a' u hS hd
                clear hd
                have g0 := hS.1.2.2.1
                go_simp
                exact ⟨_, rfl, rfl, Below.refl _ _⟩
              · intro a' u hS hd
                obtain ⟨_, e0, rfl⟩ := hd 2 (by kernel_rfl)
                have f0 : a'.tmps[69]? = some _ := e0
                clear e0
                clear hd
                have q0 : 0 < sn := by omega
                go_simp
                exact ⟨_, rfl, rfl, Below.refl _ _⟩
              · intro a' u hS hd
                obtain ⟨_, e0, rfl⟩ := hd 3 (by kernel_rfl)
                have f0 : a'.tmps[70]? = some _ := e0
                clear e0
                clear hd
                have x0 := keep_cell hS.2 ckd
                go_simp
                exact ⟨_, rfl, rfl, Below.refl _ _⟩
              · intro a' u hS hd
                clear hd
                have g0 := hS.1.2.2.2.2.2.1
                go_simp
                exact ⟨_, rfl, rfl, Below.refl _ _⟩
              · intro a' u hS hd
                clear hd
                have g0 := hS.1.2.1
                have x0 := keep_cell hS.2 cab
                go_simp
                exact ⟨_, rfl, rfl, Below.refl _ _⟩
              · intro a' u hS hd
                clear hd
                have g0 := hS.1.2.2.2.1
                go_simp
                exact ⟨_, rfl, rfl, Below.refl _ _⟩
              · intro a' u hS hd
                obtain ⟨_, e0, rfl⟩ := hd 6 (by kernel_rfl)
                have f0 : a'.tmps[73]? = some _ := e0
                clear e0
                obtain ⟨_, e1, rfl⟩ := hd 7 (by kernel_rfl)
                have f1 : a'.tmps[74]? = some _ := e1
                clear e1
                clear hd
                go_simp
                exact ⟨_, rfl, rfl, Below.refl _ _⟩
              · intro a' u hS hd
                obtain ⟨_, e0, rfl⟩ := hd 8 (by kernel_rfl)
                have f0 : a'.tmps[75]? = some _ := e0
                clear e0
                clear hd
                have x0 := keep_cell hS.2 cav
                go_simp
                exact ⟨_, rfl, rfl, Below.refl _ _⟩
              · intro a' u hS hd
                clear hd
                have g0 := hS.1.2.2.2.2.2.2
                go_simp
                exact ⟨_, rfl, rfl, Below.refl _ _⟩
              · intro a' u hS hd
                obtain ⟨_, e0, rfl⟩ := hd 4 (by kernel_rfl)
                have f0 : a'.tmps[71]? = some _ := e0
                clear e0
                obtain ⟨_, e1, rfl⟩ := hd 5 (by kernel_rfl)
                have f1 : a'.tmps[72]? = some _ := e1
                clear e1
                obtain ⟨_, e2, rfl⟩ := hd 9 (by kernel_rfl)
                have f2 : a'.tmps[76]? = some _ := e2
                clear e2
                obtain ⟨_, e3, rfl⟩ := hd 10 (by kernel_rfl)
                have f3 : a'.tmps[77]? = some _ := e3
                clear e3
                clear hd
                go_simp
                rw [← HGV.out]
                refine (guess_any _ _ _ _ _ HKB.out HPAB.out HAVB.out HPCB.out).mono ?_
                rintro e u' ⟨rfl, rfl⟩
                exact ⟨_, rfl, rfl, Below.refl _ _⟩
              · intro a' u hS hd
                obtain ⟨_, e0, rfl⟩ := hd 1 (by kernel_rfl)
                have f0 : a'.tmps[68]? = some _ := e0
                clear e0
                obtain ⟨_, e1, rfl⟩ := hd 11 (by kernel_rfl)
                have f1 : a'.tmps[78]? = some _ := e1
                clear e1
                clear hd
                have q0 := HFB.out
                go_simp
                exact ⟨_, rfl, rfl, Below.refl _ _⟩
              · intro a' u hS hd
                obtain ⟨_, e0, rfl⟩ := hd 12 (by kernel_rfl)
                have f0 : a'.tmps[79]? = some _ := e0
                clear e0
                clear hd
                go_simp
                exact ⟨_, rfl, ⟨_, rfl, sl_bytes u [fb] 5 (0, 0) u.heap.size rfl (by simp [maxLen]) (wf_of_bytes (fun x hx => by rw [List.mem_singleton.1 hx]; exact HFBB.out))⟩, (Below.refl _ _).alloc (Nat.le_refl _) _⟩
            · intro a' u h
              obtain ⟨_, e0, rfl⟩ := h.new 0 (by decide) (by decide +kernel)
              obtain ⟨_, e1, rfl⟩ := h.new 1 (by decide) (by decide +kernel)
              obtain ⟨_, e2, rfl⟩ := h.new 2 (by decide) (by decide +kernel)
              obtain ⟨_, e3, rfl⟩ := h.new 3 (by decide) (by decide +kernel)
              obtain ⟨_, e4, rfl⟩ := h.new 4 (by decide) (by decide +kernel)
              obtain ⟨_, e5, rfl⟩ := h.new 5 (by decide) (by decide +kernel)
              obtain ⟨_, e6, rfl⟩ := h.new 6 (by decide) (by decide +kernel)
              obtain ⟨_, e7, rfl⟩ := h.new 7 (by decide) (by decide +kernel)
              obtain ⟨_, e8, rfl⟩ := h.new 8 (by decide) (by decide +kernel)
              obtain ⟨_, e9, rfl⟩ := h.new 9 (by decide) (by decide +kernel)
              obtain ⟨_, e10, rfl⟩ := h.new 10 (by decide) (by decide +kernel)
              obtain ⟨_, e11, rfl⟩ := h.new 11 (by decide) (by decide +kernel)
              obtain ⟨_, e12, rfl⟩ := h.new 12 (by decide) (by decide +kernel)
              obtain ⟨_, e13, gl, rfl, hgl⟩ := h.new 13 (by decide) (by decide +kernel)
              have ht := set_all (Ds := [67, 68, 69, 70, 71, 72, 73, 74, 75, 76, 77, 78, 79, 80]) [(67, .slice (some ⟨w0.heap.size, 0, none⟩) nq n), (68, .int .u8 rv), (69, .slice (some ⟨b, o4, none⟩) sn sn), (70, .pointer (some ⟨b, o4, none⟩)), (71, .int .u8 kd), (72, .int .u8 pa), (73, .slice (some ⟨ag, ao, none⟩) wn ac), (74, .int .i64 x), (75, .pointer (some ⟨ag, ao + x, none⟩)), (76, .int .u8 av), (77, .int .u8 pc), (78, .int .u8 gv), (79, .int .u8 fb), (80, .slice (some ⟨gl, 0, none⟩) 1 1)] rfl (by simp only [List.forall_mem_cons]; exact ⟨e0, e1, e2, e3, e4, e5, e6, e7, e8, e9, e10, e11, e12, e13, fun _ h => nomatch h⟩) h.old h.size
              have hdf := h.defers
              have HBu := Lib.hid h.below
              clear h e0 e1 e2 e3 e4 e5 e6 e7 e8 e9 e10 e11 e12 e13
              obtain ⟨tmps, defers⟩ := a'
              dsimp only at ht hdf
              subst hdf
              rw [ht]
              clear ht
              simp only [List.foldl_cons, List.foldl_nil, List.setIfInBounds_toArray, List.set_cons_zero, List.set_cons_succ]
              have HRu := Lib.hid (ownsRow_below HRN.out HBu.out)
              have HSl := Lib.hid hgl
              clear hgl cob ckd cab cav
              simp only [List.drop_succ_cons, List.drop_zero]
              refine wpList_of_append rfl (.tmp 67) (.tmp 80) 22 22 rfl (run_append_in _ _ w.heap.size w0.heap.size nq n _ HRu.out ⟨gl, 0, none⟩ 1 1 [fb] HSl.out HSM.out) ?_
              rintro v5 w5 ⟨rfl, ho5, hg5⟩
              have hl5 : (o1 ++ ck.uTo kd bn ab raw x ++ [fb]).length = nq + 1 := by rw [List.length_append, ← HNQ.out]; rfl
              have HAP := Lib.hid (RowsG.app (ys := [fb]) HRA.out HIq.out HBu.out hg5 (by rw [hl5]; exact ho5))
              have h5a := HAP.out.1
              have c5 : w5.cell? ⟨w0.heap.size + 1, 0, none⟩ = _ := (cell_of_row _ _ 0 _ _ (0, 0) h5a).trans rfl
              have f5 := frozen_of_row _ _ 0 _ _ h5a
              have HL5 := Lib.hid hl5
              clear ho5 hg5 h5a hl5
              go_wp2_with fail
              gi_wp2
              have HI9 := HAP.out.2.1
              have KO9 := HAP.out.2.2
              rw [HL5.out] at HI9 KO9
              rw [List.append_assoc, show ck.uTo kd bn ab raw x ++ [fb] = ck.uTo kd bn ab raw (x + 1) by rw [ck.uTo_succ, HFBV2.out]] at HI9
              go_roundg (wn - (x + 1))
              case measure => have := Hg.out; omega
              case rel => exact ⟨x + 1, by omega, rfl, by go_num, HI9, KOq.out.trans KO9⟩
          · have hgi : ¬ (bn : Int) ≤ (x : Int) := by omega
            clear hnqi
            have HFBV : Hid (fb = (rv + ck.gs kd 0 (ab.getD x 0) 0) % 256) := Lib.hid (by rw [HFBV2.out]; unfold ck.px; rw [if_neg hge, if_neg hge, HRV.out])
            have HPAB : Hid (ck.byteI 0) := Lib.hid ⟨by decide, by decide⟩
            have HPCB : Hid (ck.byteI 0) := Lib.hid ⟨by decide, by decide⟩
            have HIq := Lib.hid HIx.out
            have KOq := Lib.hid KOx.out
            gi_wp2
            clear xr x6 hgi
            have hbx := HIq.out.box
            rw [← HNQ.out] at hbx
            have cob := (cell_of_row _ _ 0 _ _ (0, 0) hbx).trans rfl
            have ckd := HRK.out wr HIq.out.below
            have cab := (cell_of_row _ _ 0 _ _ (0, 0) HIq.out.above).trans rfl
            have cav := HAC.out _ _ HIq.out x hlt
            obtain ⟨av, hav⟩ : ∃ y, ab.getD x 0 = y := ⟨_, rfl⟩
            rw [hav] at cav
            obtain ⟨gv, hgv⟩ : ∃ y, ck.gs kd 0 av 0 = y := ⟨_, rfl⟩
            have hfb0 : fb = (rv + gv) % 256 := by rw [HFBV.out, ← hgv, ← hav]
            have HFB : Hid (IntKind.u8.wrap (rv + gv) = fb) := Lib.hid (by rw [IntKind.wrap_u8, hfb0])
            have HFBB : Hid (0 ≤ fb ∧ fb < 256) := Lib.hid (by omega)
            have HAVB : Hid (ck.byteI av) := Lib.hid (by rw [← hav]; exact HABB.out x)
            have HGV := Lib.hid hgv
            have hrq := HIq.out.row
            rw [← HNQ.out] at hrq
            have HRN := Lib.hid hrq
            clear hbx hrq hav hgv hfb0
            refine round_region_tails 14 (by rintro ⟨_, _, h⟩; exact h) (by kernel_rfl) (by decide) (D := fun i => ([67, 68, 69, 70, 71, 72, 73, 74, 75, 76, 77, 78, 79, 80] : List Nat).getD i 0)
              (R := fun i v w' => match i with
                | 0 => v = .slice (some ⟨w0.heap.size, 0, none⟩) nq n
                | 1 => v = .int .u8 rv
                | 2 => v = .slice (some ⟨b, o4, none⟩) sn sn
                | 3 => v = .pointer (some ⟨b, o4, none⟩)
                | 4 => v = .int .u8 kd
                | 5 => v = .int .u8 0
                | 6 => v = .slice (some ⟨ag, ao, none⟩) wn ac
                | 7 => v = .int .i64 x
                | 8 => v = .pointer (some ⟨ag, ao + x, none⟩)
                | 9 => v = .int .u8 av
                | 10 => v = .int .u8 0
                | 11 => v = .int .u8 gv
                | 12 => v = .int .u8 fb
                | 13 => ∃ g, v = .slice (some ⟨g, 0, none⟩) 1 1 ∧ Sl .u8 w' (some ⟨g, 0, none⟩) 1 1 [fb]
                | _ => True)
              (S := fun a' w' => (a'.tmps[8]? = some (.pointer (some ⟨w0.heap.size + 1, 0, none⟩)) ∧ a'.tmps[9]? = some (.pointer (some ⟨w0.heap.size + 1 + 1 + 1, 0, none⟩)) ∧ a'.tmps[10]? = some (.slice (some ⟨b, o4, none⟩) sn sn) ∧ a'.tmps[12]? = some (.int .i64 x) ∧ a'.tmps[13]? = some (.int .u8 rv) ∧ a'.tmps[14]? = some (.int .u8 0) ∧ a'.tmps[15]? = some (.int .u8 0)) ∧ Below wr.heap.size wr w')
              (by kernel_rfl) (by decide +kernel) (by decide +kernel) (by decide +kernel) (by decide +kernel) (by kernel_rfl) (by kernel_rfl) ?_ ?_ ?_ ?_
            · intro i v u u' h hb
              match i, h with
              | 0, h => exact h
              | 1, h => exact h
              | 2, h => exact h
              | 3, h => exact h
              | 4, h => exact h
              | 5, h => exact h
              | 6, h => exact h
              | 7, h => exact h
              | 8, h => exact h
              | 9, h => exact h
              | 10, h => exact h
              | 11, h => exact h
              | 12, h => exact h
              | 13, h => (obtain ⟨g, h1, h2⟩ := h; exact ⟨g, h1, h2.below hb⟩)
              | i + 14, _ => trivial
            · intro a' u hb _ hold
              exact ⟨⟨hold 8 (by decide), hold 9 (by decide), hold 10 (by decide), hold 12 (by decide), hold 13 (by decide), hold 14 (by decide), hold 15 (by decide)⟩, hb⟩
            · refine ⟨?_, ?_, ?_, ?_, ?_, ?_, ?_, ?_, ?_, ?_, ?_, ?_, ?_, ?_, trivial⟩
              · intro a' u hS hd
                clear hd
                have g0 := hS.1.1
                have x0 := keep_cell hS.2 cob
                go_simp
                exact ⟨_, rfl, rfl, Below.refl _ _⟩
              · intro a' u hS hd
                clear hd
                have g0 := hS.1.2.2.2.2.1
                go_simp
                exact ⟨_, rfl, rfl, Below.refl _ _⟩
              · intro a' u hS hd
                clear hd
                have g0 := hS.1.2.2.1
                go_simp
                exact ⟨_, rfl, rfl, Below.refl _ _⟩
              · intro a' u hS hd
                obtain ⟨_, e0, rfl⟩ := hd 2 (by kernel_rfl)
                have f0 : a'.tmps[69]? = some _ := e0
                clear e0
                clear hd
                have q0 : 0 < sn := by omega
                go_simp
                exact ⟨_, rfl, rfl, Below.refl _ _⟩
              · intro a' u hS hd
                obtain ⟨_, e0, rfl⟩ := hd 3 (by kernel_rfl)
                have f0 : a'.tmps[70]? = some _ := e0
                clear e0
                clear hd
                have x0 := keep_cell hS.2 ckd
                go_simp
                exact ⟨_, rfl, rfl, Below.refl _ _⟩
              · intro a' u hS hd
                clear hd
                have g0 := hS.1.2.2.2.2.2.1
                go_simp
                exact ⟨_, rfl, rfl, Below.refl _ _⟩
              · intro a' u hS hd
                clear hd
                have g0 := hS.1.2.1
                have x0 := keep_cell hS.2 cab
                go_simp
                exact ⟨_, rfl, rfl, Below.refl _ _⟩
              · intro a' u hS hd
                clear hd
                have g0 := hS.1.2.2.2.1
                go_simp
                exact ⟨_, rfl, rfl, Below.refl _ _⟩
              · intro a' u hS hd
                obtain ⟨_, e0, rfl⟩ := hd 6 (by kernel_rfl)
                have f0 : a'.tmps[73]? = some _ := e0
                clear e0
                obtain ⟨_, e1, rfl⟩ := hd 7 (by kernel_rfl)
                have f1 : a'.tmps[74]? = some _ := e1
                clear e1
                clear hd
                go_simp
                exact ⟨_, rfl, rfl, Below.refl _ _⟩
              · intro a' u hS hd
                obtain ⟨_, e0, rfl⟩ := hd 8 (by kernel_rfl)
                have f0 : a'.tmps[75]? = some _ := e0
                clear e0
                clear hd
                have x0 := keep_cell hS.2 cav
                go_simp
                exact ⟨_, rfl, rfl, Below.refl _ _⟩
              · intro a' u hS hd
                clear hd
                have g0 := hS.1.2.2.2.2.2.2
                go_simp
                exact ⟨_, rfl, rfl, Below.refl _ _⟩
              · intro a' u hS hd
                obtain ⟨_, e0, rfl⟩ := hd 4 (by kernel_rfl)
                have f0 : a'.tmps[71]? = some _ := e0
                clear e0
                obtain ⟨_, e1, rfl⟩ := hd 5 (by kernel_rfl)
                have f1 : a'.tmps[72]? = some _ := e1
                clear e1
                obtain ⟨_, e2, rfl⟩ := hd 9 (by kernel_rfl)
                have f2 : a'.tmps[76]? = some _ := e2
                clear e2
                obtain ⟨_, e3, rfl⟩ := hd 10 (by kernel_rfl)
                have f3 : a'.tmps[77]? = some _ := e3
                clear e3
                clear hd
                go_simp
                rw [← HGV.out]
                refine (guess_any _ _ _ _ _ HKB.out HPAB.out HAVB.out HPCB.out).mono ?_
                rintro e u' ⟨rfl, rfl⟩
                exact ⟨_, rfl, rfl, Below.refl _ _⟩
              · intro a' u hS hd
                obtain ⟨_, e0, rfl⟩ := hd 1 (by kernel_rfl)
                have f0 : a'.tmps[68]? = some _ := e0
                clear e0
                obtain ⟨_, e1, rfl⟩ := hd 11 (by kernel_rfl)
                have f1 : a'.tmps[78]? = some _ := e1
                clear e1
                clear hd
                have q0 := HFB.out
                go_simp
                exact ⟨_, rfl, rfl, Below.refl _ _⟩
              · intro a' u hS hd
                obtain ⟨_, e0, rfl⟩ := hd 12 (by kernel_rfl)
                have f0 : a'.tmps[79]? = some _ := e0
                clear e0
                clear hd
                go_simp
                exact ⟨_, rfl, ⟨_, rfl, sl_bytes u [fb] 5 (0, 0) u.heap.size rfl (by simp [maxLen]) (wf_of_bytes (fun x hx => by rw [List.mem_singleton.1 hx]; exact HFBB.out))⟩, (Below.refl _ _).alloc (Nat.le_refl _) _⟩
            · intro a' u h
              obtain ⟨_, e0, rfl⟩ := h.new 0 (by decide) (by decide +kernel)
              obtain ⟨_, e1, rfl⟩ := h.new 1 (by decide) (by decide +kernel)
              obtain ⟨_, e2, rfl⟩ := h.new 2 (by decide) (by decide +kernel)
              obtain ⟨_, e3, rfl⟩ := h.new 3 (by decide) (by decide +kernel)
              obtain ⟨_, e4, rfl⟩ := h.new 4 (by decide) (by decide +kernel)
              obtain ⟨_, e5, rfl⟩ := h.new 5 (by decide) (by decide +kernel)
              obtain ⟨_, e6, rfl⟩ := h.new 6 (by decide) (by decide +kernel)
              obtain ⟨_, e7, rfl⟩ := h.new 7 (by decide) (by decide +kernel)
              obtain ⟨_, e8, rfl⟩ := h.new 8 (by decide) (by decide +kernel)
              obtain ⟨_, e9, rfl⟩ := h.new 9 (by decide) (by decide +kernel)
              obtain ⟨_, e10, rfl⟩ := h.new 10 (by decide) (by decide +kernel)
              obtain ⟨_, e11, rfl⟩ := h.new 11 (by decide) (by decide +kernel)
              obtain ⟨_, e12, rfl⟩ := h.new 12 (by decide) (by decide +kernel)
              obtain ⟨_, e13, gl, rfl, hgl⟩ := h.new 13 (by decide) (by decide +kernel)
              have ht := set_all (Ds := [67, 68, 69, 70, 71, 72, 73, 74, 75, 76, 77, 78, 79, 80]) [(67, .slice (some ⟨w0.heap.size, 0, none⟩) nq n), (68, .int .u8 rv), (69, .slice (some ⟨b, o4, none⟩) sn sn), (70, .pointer (some ⟨b, o4, none⟩)), (71, .int .u8 kd), (72, .int .u8 0), (73, .slice (some ⟨ag, ao, none⟩) wn ac), (74, .int .i64 x), (75, .pointer (some ⟨ag, ao + x, none⟩)), (76, .int .u8 av), (77, .int .u8 0), (78, .int .u8 gv), (79, .int .u8 fb), (80, .slice (some ⟨gl, 0, none⟩) 1 1)] rfl (by simp only [List.forall_mem_cons]; exact ⟨e0, e1, e2, e3, e4, e5, e6, e7, e8, e9, e10, e11, e12, e13, fun _ h => nomatch h⟩) h.old h.size
              have hdf := h.defers
              have HBu := Lib.hid h.below
              clear h e0 e1 e2 e3 e4 e5 e6 e7 e8 e9 e10 e11 e12 e13
              obtain ⟨tmps, defers⟩ := a'
              dsimp only at ht hdf
              subst hdf
              rw [ht]
              clear ht
              simp only [List.foldl_cons, List.foldl_nil, List.setIfInBounds_toArray, List.set_cons_zero, List.set_cons_succ]
              have HRu := Lib.hid (ownsRow_below HRN.out HBu.out)
              have HSl := Lib.hid hgl
              clear hgl cob ckd cab cav
              simp only [List.drop_succ_cons, List.drop_zero]
              refine wpList_of_append rfl (.tmp 67) (.tmp 80) 22 22 rfl (run_append_in _ _ w.heap.size w0.heap.size nq n _ HRu.out ⟨gl, 0, none⟩ 1 1 [fb] HSl.out HSM.out) ?_
              rintro v5 w5 ⟨rfl, ho5, hg5⟩
              have hl5 : (o1 ++ ck.uTo kd bn ab raw x ++ [fb]).length = nq + 1 := by rw [List.length_append, ← HNQ.out]; rfl
              have HAP := Lib.hid (RowsG.app (ys := [fb]) HRA.out HIq.out HBu.out hg5 (by rw [hl5]; exact ho5))
              have h5a := HAP.out.1
              have c5 : w5.cell? ⟨w0.heap.size + 1, 0, none⟩ = _ := (cell_of_row _ _ 0 _ _ (0, 0) h5a).trans rfl
              have f5 := frozen_of_row _ _ 0 _ _ h5a
              have HL5 := Lib.hid hl5
              clear ho5 hg5 h5a hl5
              go_wp2_with fail
              gi_wp2
              have HI9 := HAP.out.2.1
              have KO9 := HAP.out.2.2
              rw [HL5.out] at HI9 KO9
              rw [List.append_assoc, show ck.uTo kd bn ab raw x ++ [fb] = ck.uTo kd bn ab raw (x + 1) by rw [ck.uTo_succ, HFBV2.out]] at HI9
              go_roundg (wn - (x + 1))
              case measure => have := Hg.out; omega
              case rel => exact ⟨x + 1, by omega, rfl, by go_num, HI9, KOq.out.trans KO9⟩
        · obtain rfl : x = wn := by omega
          have hb8 := HIx.out.box
          rw [← HNQ.out] at hb8
          have x8 := (cell_of_row _ _ 0 _ _ (0, 0) hb8).trans rfl
          have x4 := (cell_of_row _ _ 0 _ _ (0, 0) HIx.out.above).trans rfl
          have f4 := frozen_of_row _ _ 0 _ _ HIx.out.above
          have q1 : (fl : Int) ≤ (nq : Int) := by omega
          have q2 : (nq : Int) ≤ (n : Int) := by omega
          have q3 : ¬ n = fl := by omega
          have q4 : nq - fl = x := by omega
          have q5 : nq ≤ n := by omega
          have q6 : fl ≤ nq := by omega
          have q7 : fl ≤ n := by omega
          clear hb8 hnq2
          gi_wp2
          have h9 := RowsG.setAbove HRA.out HIx.out (.slice (some ⟨w0.heap.size, fl, none⟩) x (n - fl))
          refine ⟨KOx.out.trans h9.2, RowsG.two HI.out h9.1 (x := #[.slice (some ⟨b, off, none⟩) n cap]) (y := #[.int .i64 sn]) (s := 22) (t := 3) (by rw [HFX.out]; simp) (by rw [HFX.out]; simp), HK4.out, ?_⟩
          show RowsG w w0.heap.size n fix (w0.heap.size + 1) (w0.heap.size + 1 + 1 + 1) (ck.uSt x bn l ((pre ++ [(⟨xi, hxi⟩ : ChIx n sn)]).map (·.1))).1 (ck.uV w0.heap.size (w0.heap.size + 1 + 1) x n (pre ++ [(⟨xi, hxi⟩ : ChIx n sn)]).length) _
          rw [HNX.out, HAX.out]
          exact h9.1
    · have hg4 : 4 < kd := by omega
      have f1 := frozen_of_row _ _ 0 _ _ (hI.fix (w.heap.size + 1, #[.slice none 0 0], 22) (by rw [HFX.out]; simp))
      have e1 := (cell_of_row _ _ 0 _ _ (0, 0) (hI.fix (w.heap.size + 1, #[.slice none 0 0], 22) (by rw [HFX.out]; simp))).trans rfl
      have f2 := frozen_of_row _ _ 0 _ _ (hI.fix (w.heap.size + 1 + 1, #[.int .i64 0], 25) (by rw [HFX.out]; simp))
      have e2 := (cell_of_row _ _ 0 _ _ (0, 0) (hI.fix (w.heap.size + 1 + 1, #[.int .i64 0], 25) (by rw [HFX.out]; simp))).trans rfl
      dsimp only at f1 e1 f2 e2
      have HX9 := Lib.hid hk4
      have h6 := Lib.hid (hI.fix (w.heap.size + 1, #[.slice none 0 0], 22) (by rw [HFX.out]; simp))
      have h7 := Lib.hid (hI.fix (w.heap.size + 1 + 1, #[.int .i64 0], 25) (by rw [HFX.out]; simp))
      clear hk4 hI z0 z3 SZ4 c1 c2
      gi_wp2
      obtain ⟨s1, s2⟩ := two_stores (v := .slice none 0 0) (v' := .int .i64 9) (by omega) h6.out h7.out
      exact ⟨(KeepsOthers.setCell _ _ _).trans (KeepsOthers.setCell _ _ _), rfl, ⟨xi, hxm, by rw [hkd]; exact Int.not_le.2 HX9.out⟩, s1, s2, below_two HI.out.below (by omega) (by omega)⟩
  case done =>
    rintro D ys W1 hD ⟨hS1, hS2⟩ ⟨hkk, hI⟩ hK
    have hS3 : ys.map (·.1) = List.range ys.length := hS2
    have hyl : ys.length = m := by rw [hS1, HCH.out]
    have hall : ck.kindsOk wn l m := fun i hi => hkk i (by rw [hS3, hyl]; exact List.mem_range.2 hi)
    have HE0 : Hid (E = 0) := Lib.hid (by rw [HE.out, if_pos hall])
    have HO0 : Hid (O = (ck.uSt wn bn l (ys.map (·.1))).1) := Lib.hid (by rw [HO.out, if_pos hall, hS3, hyl, ck.uSt_range])
    have h6 := hI.fix (w.heap.size + 1, #[.slice none 0 0], 22) (by rw [HFX.out]; simp)
    have h7 := hI.fix (w.heap.size + 1 + 1, #[.int .i64 0], 25) (by rw [HFX.out]; simp)
    have hb8 := hI.box
    have hrow := hI.row
    rw [← HO0.out] at hb8 hrow
    dsimp only at h6 h7
    have x8 := (cell_of_row _ _ 0 _ _ (0, 0) hb8).trans rfl
    have f1 := frozen_of_row _ _ 0 _ _ h6
    have e1 := (cell_of_row _ _ 0 _ _ (0, 0) h6).trans rfl
    have f2 := frozen_of_row _ _ 0 _ _ h7
    have e2 := (cell_of_row _ _ 0 _ _ (0, 0) h7).trans rfl
    have H6 := Lib.hid h6
    have H7 := Lib.hid h7
    have HROW := Lib.hid hrow
    have HBL := Lib.hid hI.below
    have HKD := Lib.hid hK
    have hDw : w.heap.size + 1 + 1 < D := by omega
    have hgw : w.heap.size + 1 + 1 < w0.heap.size := by omega
    have HDW := Lib.hid hDw
    have HD0 : Hid (w0.heap.size < D) := Lib.hid (by omega)
    have HGW := Lib.hid hgw
    obtain ⟨ol, hol⟩ : ∃ y, O.length = y := ⟨_, rfl⟩
    have HOL := Lib.hid hol
    rw [hol] at x8
    clear hkk hI hK hD h6 h7 hb8 hrow z0 z3 SZ4 hall hS1 hS2 hS3 hyl hDw hgw hol B4 c1 c2
    go_wp2_with fail
    have hd1 := HDW.out
    have hg1 := HGW.out
    obtain ⟨s1, s2⟩ := two_stores (v := .slice (some ⟨w0.heap.size, 0, none⟩) ol n) (v' := .int .i64 0) (by omega) H6.out H7.out
    have k1 := grownBy_setCell3 W1 (w.heap.size + 1) 0 (.slice (some ⟨w0.heap.size, 0, none⟩) ol n)
    have k2 := grownBy_setCell3 (W1.setCell ⟨w.heap.size + 1, 0, none⟩ (.slice (some ⟨w0.heap.size, 0, none⟩) ol n)) (w.heap.size + 1 + 1) 0 (.int .i64 0)
    have hkd := grown_block k2 (grown_block k1 HKD.out (some_ne (by omega))) (some_ne (by omega))
    have hr := HROW.out
    rw [HOL.out] at hr
    have hr2 := World.ownsRow.kept (World.ownsRow.kept hr k1 (.inr (some_ne (show w0.heap.size ≠ w.heap.size + 1 by omega)))) k2 (.inr (some_ne (show w0.heap.size ≠ w.heap.size + 1 + 1 by omega)))
    have hb2 := below_two (v := .slice (some ⟨w0.heap.size, 0, none⟩) ol n) (v' := .int .i64 0) HBL.out (Nat.le_succ _) (Nat.le_succ_of_le (Nat.le_succ _))
    refine ⟨by simp, .inl ⟨_, _, rfl, run_takeDeferred hkd, ?_⟩⟩
    have g3 := grownBy_putObj' ((W1.setCell ⟨w.heap.size + 1, 0, none⟩ (.slice (some ⟨w0.heap.size, 0, none⟩) ol n)).setCell ⟨w.heap.size + 1 + 1, 0, none⟩ (.int .i64 0)) D (.deferred none)
    have s3 := grown_block g3 s1 (some_ne (by omega))
    have t3 := grown_block g3 s2 (some_ne (by omega))
    refine ⟨_, results_cells (p := 6) (q := 7) (ty := 22) (tz := 25) rfl _ _ (w.heap.size + 1) (w.heap.size + 1 + 1) _ _ rfl rfl ((cell_of_row _ _ 0 _ _ (0, 0) s3).trans rfl) ((cell_of_row _ _ 0 _ _ (0, 0) t3).trans rfl) Tryd.underlying22 Tryd.underlying25, ?_⟩
    rw [HE0.out]
    refine ⟨_, rfl, ?_, take_deferred_below (by omega) (Nat.le_refl _) hb2 _⟩
    rw [HOL.out]
    exact World.ownsRow.kept hr2 g3 (.inr (some_ne (show w0.heap.size ≠ D from Nat.ne_of_lt HD0.out)))
  case stop =>
    rintro D c pre W1 hD _ ⟨rfl, ⟨k, hk, hk4⟩, h6, h7, hb⟩ hK
    have hno : ¬ ck.kindsOk wn l m := fun h => hk4 (h k hk)
    refine wpIn_ret ?_
    refine ⟨by simp, .inl ⟨_, _, rfl, run_takeDeferred hK, ?_⟩⟩
    have g3 := grownBy_putObj' W1 D (.deferred none)
    have s3 := grown_block g3 h6 (some_ne (by omega))
    have t3 := grown_block g3 h7 (some_ne (by omega))
    refine ⟨_, results_cells (p := 6) (q := 7) (ty := 22) (tz := 25) rfl _ _ (w.heap.size + 1) (w.heap.size + 1 + 1) _ _ rfl rfl ((cell_of_row _ _ 0 _ _ (0, 0) s3).trans rfl) ((cell_of_row _ _ 0 _ _ (0, 0) t3).trans rfl) Tryd.underlying22 Tryd.underlying25, ?_⟩
    rw [HE.out, HO.out, if_neg hno, if_neg hno]
    exact UnfPost.no (take_deferred_below (by omega) (Nat.le_refl _) hb _)

set_option maxRecDepth 100000 in
set_option maxHeartbeats 1600000 in
theorem unfilter_any (p : Option Addr) (b off n cap : Nat) (width bpp : Int) (l : List Int) (w : World) (h : Sl .u8 w p n cap l) (hp : n = 0 ∨ p = some ⟨b, off, none⟩) (hn : n ≤ 140737488355328) :
    Calls Tryd.prog 21 #[.slice p n cap, .int .i64 width, .int .i64 bpp] w (UnfPost (ck.unfErr width bpp l) (ck.unfOut width bpp l) w) := by
  by_cases hf : ck.fitB width bpp = true
  · obtain ⟨q1, q2, q3, q4⟩ := of_decide_eq_true hf
    obtain ⟨wn, rfl⟩ : ∃ wn : Nat, width = wn := ⟨width.toNat, by omega⟩
    obtain ⟨bn, rfl⟩ : ∃ bn : Nat, bpp = bn := ⟨bpp.toNat, by omega⟩
    by_cases hm : n % (wn + 1) = 0
    · have hd := Nat.div_add_mod n (wn + 1)
      rw [hm, Nat.add_zero, Nat.mul_comm] at hd
      refine unfilter_yes p b off n cap wn bn (n / (wn + 1)) l w h hp (by omega) (by omega) (by omega) (by omega) hd.symm hn _ _ ?_ ?_
      · unfold ck.unfErr
        rw [if_pos hf, Int.toNat_natCast, h.len]
        by_cases hk : ck.kindsOk wn l (n / (wn + 1))
        · rw [if_pos hk, if_pos ⟨hm, hk⟩]
        · rw [if_neg hk, if_neg (fun h => hk h.2)]
      · unfold ck.unfOut ck.unfErr
        rw [if_pos hf, Int.toNat_natCast, Int.toNat_natCast, h.len]
        by_cases hk : ck.kindsOk wn l (n / (wn + 1))
        · simp [hm, hk]
        · simp [hm, hk]
    · have HE : Hid (ck.unfErr wn bn l = 9) := Lib.hid (by unfold ck.unfErr; rw [if_pos hf, Int.toNat_natCast, h.len, if_neg (fun h => hm h.1)])
      have HO : Hid (ck.unfOut wn bn l = []) := Lib.hid (by unfold ck.unfOut; rw [HE.out]; rfl)
      rw [HE.out, HO.out]
      have HF := Lib.hid hf
      have k0 : IntKind.i64.wrap ((wn : Int) + 1) = ((wn + 1 : Nat) : Int) := IntWalk.i64_in _ (by omega)
      have k3 : (((n : Int) % ((wn : Int) + 1)) != 0) = true := by
        rw [show ((wn : Int) + 1) = ((wn + 1 : Nat) : Int) by omega, ← Int.natCast_emod]
        simp only [bne_iff_ne, ne_eq]
        omega
      have hfit := h.fits
      clear hf hm HE HO
      obtain ⟨⟨q0, h6, h7⟩, SZ0⟩ := heap3' w (.cells #[.int .i64 bn] 3) (.cells #[.slice none 0 0] 22) (.cells #[.int .i64 0] 25)
      have B0 := below3 w (.cells #[.int .i64 bn] 3) (.cells #[.slice none 0 0] 22) (.cells #[.int .i64 0] 25)
      go_enter Tryd.func21, Tryd.ntmps21
      go_wp2_with fail
      generalize ((w.alloc (.cells #[.int .i64 bn] 3)).alloc (.cells #[.slice none 0 0] 22)).alloc (.cells #[.int .i64 0] 25) = w0 at *
      have H6 := Lib.hid h6
      have H7 := Lib.hid h7
      have HB0 := Lib.hid B0
      clear q0 SZ0 B0
      refine (fit_any _ _ _).mono ?_
      rintro e w1 ⟨rfl, rfl⟩
      rw [HF.out]
      have f1 := frozen_of_row _ _ 0 _ _ h6
      have e1 := (cell_of_row _ _ 0 _ _ (0, 0) h6).trans rfl
      have f2 := frozen_of_row _ _ 0 _ _ h7
      have e2 := (cell_of_row _ _ 0 _ _ (0, 0) h7).trans rfl
      clear h6 h7
      go_wp2_with fail
      obtain ⟨s1, s2⟩ := two_stores (v := .slice none 0 0) (v' := .int .i64 9) (by omega) H6.out H7.out
      exact bodyPost_ret (results_cells (p := 6) (q := 7) (ty := 22) (tz := 25) rfl _ _ (w.heap.size + 1) (w.heap.size + 1 + 1) _ _ rfl rfl ((cell_of_row _ _ 0 _ _ (0, 0) s1).trans rfl) ((cell_of_row _ _ 0 _ _ (0, 0) s2).trans rfl) Tryd.underlying22 Tryd.underlying25) rfl (UnfPost.no (below_two HB0.out (by omega) (by omega)))
  · have hf' : ck.fitB width bpp = false := by simpa using hf
    have HE : Hid (ck.unfErr width bpp l = 190) := Lib.hid (by unfold ck.unfErr; rw [if_neg hf])
    have HO : Hid (ck.unfOut width bpp l = []) := Lib.hid (by unfold ck.unfOut; rw [HE.out]; rfl)
    rw [HE.out, HO.out]
    have HF := Lib.hid hf'
    clear hf hf' HE HO
    obtain ⟨⟨q0, h6, h7⟩, SZ0⟩ := heap3' w (.cells #[.int .i64 bpp] 3) (.cells #[.slice none 0 0] 22) (.cells #[.int .i64 0] 25)
    have B0 := below3 w (.cells #[.int .i64 bpp] 3) (.cells #[.slice none 0 0] 22) (.cells #[.int .i64 0] 25)
    go_enter Tryd.func21, Tryd.ntmps21
    go_wp2_with fail
    generalize ((w.alloc (.cells #[.int .i64 bpp] 3)).alloc (.cells #[.slice none 0 0] 22)).alloc (.cells #[.int .i64 0] 25) = w0 at *
    have H6 := Lib.hid h6
    have H7 := Lib.hid h7
    have HB0 := Lib.hid B0
    clear q0 SZ0 B0
    refine (fit_any _ _ _).mono ?_
    rintro e w1 ⟨rfl, rfl⟩
    rw [HF.out]
    have f1 := frozen_of_row _ _ 0 _ _ h6
    have e1 := (cell_of_row _ _ 0 _ _ (0, 0) h6).trans rfl
    have f2 := frozen_of_row _ _ 0 _ _ h7
    have e2 := (cell_of_row _ _ 0 _ _ (0, 0) h7).trans rfl
    clear h6 h7
    go_wp2_with fail
    obtain ⟨s1, s2⟩ := two_stores (v := .slice none 0 0) (v' := .int .i64 190) (by omega) H6.out H7.out
    exact bodyPost_ret (results_cells (p := 6) (q := 7) (ty := 22) (tz := 25) rfl _ _ (w.heap.size + 1) (w.heap.size + 1 + 1) _ _ rfl rfl ((cell_of_row _ _ 0 _ _ (0, 0) s1).trans rfl) ((cell_of_row _ _ 0 _ _ (0, 0) s2).trans rfl) Tryd.underlying22 Tryd.underlying25) rfl (UnfPost.no (below_two HB0.out (by omega) (by omega)))
end Go.Proofs.YtfaemhmefijaoaaDoor
