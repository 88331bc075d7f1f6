/- Rows filtered: the walk of Filter where it filters. -/
import Derived.Test.YtfaemhmefijaoaaDoorCkRowI
import Derived.Deep.OwnRows
import Derived.Lib.QuietBelow
namespace Go.Proofs.YtfaemhmefijaoaaDoor
open Go.RowKit Go.Sort Go.Shelf
attribute [local go_sem] Oper.semAt_some

theorem make8 (n : Nat) (hn : n ≤ 1048577) (w : World) : (Instr.makeSlice 22 (.int .i64 (n : Int)) (.int .i64 (n : Int))).run Tryd.prog w = .ok (.slice (some ⟨w.heap.size, 0, none⟩) n n) (w.alloc (.cells (madeCells #[.int .u8 0] n) 5)) :=
  run_make_row' 22 5 (.int .u8 0) 1 Tryd.underlying22 infoByte rfl .i64 .i64 n (by omega) (by omega) w

namespace ck
def fStep (wn bn : Nat) (kd : Int) (l : List Int) (s : List Int × List Int) (j : Nat) : List Int × List Int := (s.1 ++ fTo kd bn s.2 (rowOf wn l j) wn, rowOf wn l j)
def fSt (wn bn : Nat) (kd : Int) (l : List Int) (pre : List Nat) : List Int × List Int := pre.foldl (fStep wn bn kd l) ([], List.replicate wn 0)
theorem fSt_snoc (wn bn : Nat) (kd : Int) (l : List Int) (pre : List Nat) (x : Nat) : fSt wn bn kd l (pre ++ [x]) = ((fSt wn bn kd l pre).1 ++ fTo kd bn (fSt wn bn kd l pre).2 (rowOf wn l x) wn, rowOf wn l x) := by
  unfold fSt
  rw [List.foldl_append]
  rfl
theorem fSt_range (wn bn : Nat) (kd : Int) (l : List Int) (m : Nat) : fSt wn bn kd l (List.range m) = (filtTo wn bn kd l m, aboveOf wn l m) := by
  induction m with
  | zero => rfl
  | succ m ih =>
    rw [List.range_succ, fSt_snoc, ih, filtTo_succ]
    rfl
theorem fSt_length (wn bn : Nat) (kd : Int) (l : List Int) (pre : List Nat) : (fSt wn bn kd l pre).1.length = pre.length * (wn + 1) := by
  suffices h : ∀ pre : List Nat, (fSt wn bn kd l pre.reverse).1.length = pre.length * (wn + 1) by
    have := h pre.reverse
    rwa [List.reverse_reverse, List.length_reverse] at this
  intro pre
  induction pre with
  | nil => simp [fSt]
  | cons x pre ih => rw [List.reverse_cons, fSt_snoc, List.length_append, ih, fTo_length, List.length_cons, Nat.succ_mul]
def aV (b off wn z : Nat) (pre : List Nat) : Value := pre.foldl (fun _ j => .slice (some ⟨b, off + j * wn, none⟩) wn wn) (.slice (some ⟨z, 0, none⟩) wn wn)
theorem aV_snoc (b off wn z : Nat) (pre : List Nat) (x : Nat) : aV b off wn z (pre ++ [x]) = .slice (some ⟨b, off + x * wn, none⟩) wn wn := by
  unfold aV
  rw [List.foldl_append]
  rfl
end ck
/-- the row above, as it can be read -/
theorem above_cells {b off n cap wn bn m z : Nat} {kd : Int} {l : List Int} (hnm : n = m * wn) {pre : List Nat} (hp : ∀ j ∈ pre, j < m) : ∃ g o, ck.aV b off wn z pre = .slice (some ⟨g, o, none⟩) wn wn ∧
    ∀ W : World, Sl .u8 W (some ⟨b, off, none⟩) n cap l → W.heap[z]? = some (.cells (madeCells #[.int .u8 0] wn) 5 (0, 0)) → ∀ x, x < wn → W.cell? ⟨g, o + x, none⟩ = some (.int .u8 ((ck.fSt wn bn kd l pre).2.getD x 0)) := by
  rcases List.eq_nil_or_concat pre with rfl | ⟨pre, y, hpre⟩
  · refine ⟨z, 0, rfl, fun W _ hz x hx => ?_⟩
    rw [Nat.zero_add, cell_of_row _ _ _ _ _ _ hz]
    have h1 : (madeCells #[.int .u8 0] wn)[x]? = (madeCells #[.int .u8 0] wn).toList[x]? := by simp
    rw [h1, toList_madeCells_one]
    simp [hx, ck.fSt, List.getD_eq_getElem?_getD]
  · rw [List.concat_eq_append] at hpre
    subst hpre
    refine ⟨b, off + y * wn, ck.aV_snoc _ _ _ _ _ _, fun W hs _ x hx => ?_⟩
    rw [ck.fSt_snoc]
    exact row_cell hs hnm (hp y (by simp)) hx
theorem byte_getD {l : List Int} (h : ∀ v ∈ l, 0 ≤ v ∧ v < 256) (x : Nat) : ck.byteI (l.getD x 0) := by
  rw [List.getD_eq_getElem?_getD]
  rcases Nat.lt_or_ge x l.length with hx | hx
  · rw [List.getElem?_eq_getElem hx]
    exact h _ (List.getElem_mem hx)
  · rw [List.getElem?_eq_none hx]
    exact ⟨by decide, by decide⟩
theorem fSt_bytes {wn bn : Nat} {kd : Int} {l : List Int} (h : ∀ v ∈ l, 0 ≤ v ∧ v < 256) (pre : List Nat) : ∀ v ∈ (ck.fSt wn bn kd l pre).2, 0 ≤ v ∧ v < 256 := by
  rcases List.eq_nil_or_concat pre with rfl | ⟨pre, y, hpre⟩
  · intro v hv
    rw [List.eq_of_mem_replicate hv]
    decide
  · rw [List.concat_eq_append] at hpre
    subst hpre
    rw [ck.fSt_snoc]
    exact fun v hv => h v (List.mem_of_mem_drop (List.mem_of_mem_take hv))
theorem fByte_byte {kd : Int} {bn : Nat} {above row : List Int} {x : Nat} : 0 ≤ ck.fByte kd bn above row x ∧ ck.fByte kd bn above row x < 256 := by
  unfold ck.fByte
  omega

set_option maxRecDepth 100000 in
set_option maxHeartbeats 6400000 in
theorem filter_yes (p : Option Addr) (b off n cap wn bn kd m : Nat) (l : List Int) (w : World) (h : Sl .u8 w p n cap l) (hp : n = 0 ∨ p = some ⟨b, off, none⟩) (hw1 : 1 ≤ wn) (hw2 : wn ≤ 1048576) (hb1 : 1 ≤ bn) (hb2 : bn ≤ 8) (hk : kd ≤ 4) (hnm : n = m * wn) (hn : n ≤ 35184372088832) :
    Calls Tryd.prog 19 #[.slice p n cap, .int .i64 wn, .int .i64 bn, .int .i64 kd] w (FilterPost (some (ck.filtTo wn bn kd l m)) w) := by
  have HM := Lib.hid h
  have HNM := Lib.hid hnm
  have hfit := h.fits
  have HF : Hid (ck.fitB wn bn = true) := Lib.hid (decide_eq_true ⟨by omega, by omega, by omega, by omega⟩)
  have k1 : decide ((kd : Int) < 0) = false := by simp
  have k2 : decide (4 < (kd : Int)) = false := by simp; omega
  have k3 : (((n : Int) % (wn : Int)) != 0) = false := by
    have : ((n : Int) % (wn : Int)) = ((n % wn : Nat) : Int) := by omega
    rw [this, hnm, Nat.mul_mod_left]
    rfl
  clear h hnm
  refine (callsIn_wide (n := 6)).1 (callsIn_of_wp_marks Tryd.func19 rfl trivial ?_ rfl)
  simp only [Tryd.ntmps19, List.size_toArray, List.length_cons, List.length_nil, Nat.reduceAdd, Nat.reduceSub, Array.replicate_succ, Array.replicate_zero, List.push_toArray, List.append_toArray, List.nil_append, List.cons_append]
  refine wpIn_wide.2 ?_
  obtain ⟨q0, q1⟩ := heap2 w (.cells #[.int .i64 bn] 3) (.cells #[.int .i64 kd] 3)
  have B0 := ((Below.refl w.heap.size w).alloc (Nat.le_refl _) (.cells #[.int .i64 bn] 3)).alloc (by simp) (.cells #[.int .i64 kd] 3)
  have SZ0 : ((w.alloc (.cells #[.int .i64 bn] 3)).alloc (.cells #[.int .i64 kd] 3)).heap.size = w.heap.size + 1 + 1 := by simp
  go_wp2_with fail
  generalize (w.alloc (.cells #[.int .i64 bn] 3)).alloc (.cells #[.int .i64 kd] 3) = w0 at *
  have Q0 := Lib.hid q0
  have Q1 := Lib.hid q1
  have BB0 := Lib.hid B0
  have HSZ0 := Lib.hid SZ0
  have ck1 := (cell_of_row _ _ 0 _ _ (0, 0) q1).trans rfl
  clear q0 q1 B0 SZ0
  refine (fit_any _ _ _).mono ?_
  rintro e w1 ⟨rfl, rfl⟩
  rw [HF.out]
  have mk := fun u => make8 wn (by omega) u
  go_wp2_with fail
  clear mk ck1
  obtain ⟨⟨p0, p1, p2⟩, p3⟩ := heap3' w0 (.cells #[.slice none 0 0] 22) (.cells (madeCells #[.int .u8 0] wn) 5) (.cells #[.slice (some ⟨w0.heap.size + 1, 0, none⟩) wn wn] 22)
  have B3 := below3 w0 (.cells #[.slice none 0 0] 22) (.cells (madeCells #[.int .u8 0] wn) 5) (.cells #[.slice (some ⟨w0.heap.size + 1, 0, none⟩) wn wn] 22)
  generalize ((w0.alloc (.cells #[.slice none 0 0] 22)).alloc (.cells (madeCells #[.int .u8 0] wn) 5)).alloc (.cells #[.slice (some ⟨w0.heap.size + 1, 0, none⟩) wn wn] 22) = w3 at *
  have P0 := Lib.hid p0
  have P1 := Lib.hid p1
  have P2 := Lib.hid p2
  have HSZ3 := Lib.hid p3
  have HB3 := Lib.hid (BB0.out.trans (B3.mono BB0.out.size))
  have T0 := Lib.hid ((B3.block _ (block_lt Q0.out)).trans Q0.out)
  have T1 := Lib.hid ((B3.block _ (block_lt Q1.out)).trans Q1.out)
  clear p0 p1 p2 p3 B3 Q0 Q1 BB0
  refine (chunkN_any _ _ _ _ hw1 _).mono ?_
  rintro e w4 ⟨rfl, rfl⟩
  go_wp2_with fail
  refine (wpIn_wide (n := 6)).1 ?_
  obtain ⟨p0, p1⟩ := heap2 w3 (.cells #[.slice p n cap] 22) (.cells #[.int .i64 wn] 3)
  have B4 := (((Below.refl w3.heap.size w3).alloc (Nat.le_refl _) (.cells #[.slice p n cap] 22)).alloc (by simp) (.cells #[.int .i64 wn] 3))
  have SZ4 : ((w3.alloc (.cells #[.slice p n cap] 22)).alloc (.cells #[.int .i64 wn] 3)).heap.size = w3.heap.size + 1 + 1 := by simp
  generalize (w3.alloc (.cells #[.slice p n cap] 22)).alloc (.cells #[.int .i64 wn] 3) = w4 at *
  have hch : chunks n wn = m := by rw [HNM.out]; exact chunks_mul hw1
  have HCH := Lib.hid hch
  clear hch
  have z0 := HSZ0.out
  have z3 := HSZ3.out
  have B4w := Lib.hid (HB3.out.trans (B4.mono HB3.out.size))
  have X0 := Lib.hid ((B4.block _ (block_lt P0.out)).trans P0.out)
  have X1 := Lib.hid ((B4.block _ (block_lt P1.out)).trans P1.out)
  have X2 := Lib.hid ((B4.block _ (block_lt P2.out)).trans P2.out)
  have X3 := Lib.hid ((B4.block _ (block_lt T0.out)).trans T0.out)
  have X4 := Lib.hid ((B4.block _ (block_lt T1.out)).trans T1.out)
  obtain ⟨fix, hfx⟩ : ∃ x : List (Nat × Array Value × TypeId), x = [(w.heap.size, #[.int .i64 bn], 3), (w.heap.size + 1, #[.int .i64 kd], 3), (w0.heap.size + 1, madeCells #[.int .u8 0] wn, 5), (w3.heap.size, #[.slice p n cap], 22), (w3.heap.size + 1, #[.int .i64 wn], 3)] := ⟨_, rfl⟩
  have HFX := Lib.hid hfx
  have hRA : RowsAt w w4.heap.size fix w0.heap.size (w0.heap.size + 1 + 1) := by
    refine ⟨by omega, by omega, by omega, by omega, by omega, fun p hp => ?_⟩
    rw [hfx] at hp
    simp only [List.mem_cons, List.not_mem_nil, or_false] at hp
    rcases hp with rfl | rfl | rfl | rfl | rfl <;> refine ⟨?_, ?_, ?_⟩ <;> dsimp only <;> omega
  have HRA := Lib.hid hRA
  have hI0 : RowsI w w4.heap.size fix w0.heap.size (w0.heap.size + 1 + 1) (ck.fSt wn bn kd l []).1 (ck.aV b off wn (w0.heap.size + 1) []) w4 := by
    refine ⟨fun p hp => ?_, X2.out, ⟨_, X0.out, World.ownsRow_nil _ _ _ _⟩, B4w.out⟩
    rw [hfx] at hp
    simp only [List.mem_cons, List.not_mem_nil, or_false] at hp
    rcases hp with rfl | rfl | rfl | rfl | rfl
    · exact X3.out
    · exact X4.out
    · exact X1.out
    · exact p0
    · exact p1
  have HI0 := Lib.hid hI0
  have c1 := (cell_of_row _ _ 0 _ _ (0, 0) p0).trans rfl
  have c2 := (cell_of_row _ _ 0 _ _ (0, 0) p1).trans rfl
  clear hRA hI0 hfx p0 p1 X0 X1 X2 X3 X4 T0 T1 P0 P1 P2
  refine wpIn_rangeFunc_ownF rfl (by omega) (gf := 52) (lb := #[.pointer (some ⟨w3.heap.size, 0, none⟩), .pointer (some ⟨w3.heap.size + 1, 0, none⟩)]) rfl trivial (enters_of Tryd.func52 (by kernel_rfl) rfl)
    (chunk_stops 5 w3.heap.size (w3.heap.size + 1) _ n cap wn hw1 (by omega) HM.out.fits (by omega) w4 (by omega) (by omega) b off hp c1 c2) (fun h k => h.trans k) (KeepsTwo.put (by omega) (by omega)) (Below.refl _ _) (fun _ => rfl)
    (fun pre W => RowsI w w4.heap.size fix w0.heap.size (w0.heap.size + 1 + 1) (ck.fSt wn bn kd l (pre.map (·.1))).1 (ck.aV b off wn (w0.heap.size + 1) (pre.map (·.1))) W)
    (fun _ _ _ => False)
    (RowsI.ownFrom (by omega) _ _)
    (fun _ _ _ _ _ hs _ _ => hs)
    HI0.out
    (fun x => { tmps := #[.slice p n cap, .int .i64 wn, .int .i64 bn, .int .i64 kd, undef, undef, .pointer (some ⟨w.heap.size, 0, none⟩), .pointer (some ⟨w.heap.size + 1, 0, none⟩), .slice none 0 0, .int .i64 0, .pointer (some ⟨w0.heap.size, 0, none⟩), .pointer (some ⟨w0.heap.size + 1 + 1, 0, none⟩), chunkV b off n wn x.1, undef, undef, undef, undef, .int .i64 wn, .int .i64 bn, .bool true, .bool false, .bool false, .int .i64 kd, .bool false, .bool false, .bool false, .int .i64 kd, .bool false, .bool false, .bool false, .slice p n cap, .int .i64 n, .int .i64 wn, .int .i64 ((n : Int) % wn), .bool false, .bool false, .int .i64 wn, .slice (some ⟨w0.heap.size + 1, 0, none⟩) wn wn, .slice p n cap, .int .i64 wn, .func (.func 52) #[] #[.pointer (some ⟨w3.heap.size, 0, none⟩), .pointer (some ⟨w3.heap.size + 1, 0, none⟩)], chunkV b off n wn x.1, undef, undef, undef, undef, undef, undef, undef, undef, undef, undef, undef, undef, undef, undef, undef, undef, undef, undef, undef, undef, undef, undef, undef, undef, undef, undef, undef, undef, undef, undef, undef, undef, undef, undef, undef, undef, undef, undef, undef, undef, undef, undef, undef, undef], defers := [] }) ?assign ?body ?done ?stop
  case assign =>
    intro l x W K hK
    clear z0 z3 SZ4
    gi_wp2
    exact hK
  case body =>
    rintro lr pre ⟨xi, hxi⟩ W1 hI hlen
    dsimp only
    have HI := Lib.hid hI
    have hxm : xi < m := by rw [← HCH.out]; exact hxi
    have hn0 : ¬ n = 0 := by
      have h1 : 1 * 1 ≤ m * wn := Nat.mul_le_mul (by omega) hw1
      rw [HNM.out]
      omega
    rcases hp with h0 | rfl
    · exact absurd h0 hn0
    clear hn0
    have hcv : chunkV b off n wn xi = .slice (some ⟨b, off + xi * wn, none⟩) wn wn := by rw [HNM.out]; exact chunkV_mul hxm
    have hpm : ∀ j ∈ pre.map (·.1), j < m := by
      intro j hj
      obtain ⟨y, _, rfl⟩ := List.mem_map.1 hj
      rw [← HCH.out]
      exact y.2
    obtain ⟨ag, ao, hav, hac⟩ := above_cells (b := b) (off := off) (n := n) (cap := cap) (bn := bn) (z := w0.heap.size + 1) (kd := kd) (l := l) HNM.out hpm
    obtain ⟨o1, ho1⟩ : ∃ x, (ck.fSt wn bn kd l (pre.map (·.1))).1 = x := ⟨_, rfl⟩
    obtain ⟨ab, hab⟩ : ∃ x, (ck.fSt wn bn kd l (pre.map (·.1))).2 = x := ⟨_, rfl⟩
    obtain ⟨rw', hrw⟩ : ∃ x, ck.rowOf wn l xi = x := ⟨_, rfl⟩
    obtain ⟨o4, ho4⟩ : ∃ x, off + xi * wn = x := ⟨_, rfl⟩
    have hol : o1.length = pre.length * (wn + 1) := by rw [← ho1, ck.fSt_length, List.length_map]
    have hole : o1.length + wn + 1 ≤ n + m := by
      have h1 : (pre.length + 1) * (wn + 1) ≤ m * (wn + 1) := Nat.mul_le_mul_right _ (by rw [← HCH.out]; exact hlen)
      rw [Nat.succ_mul, ← hol, Nat.mul_succ, ← HNM.out] at h1
      omega
    have hmn : m ≤ n := by rw [HNM.out]; exact Nat.le_mul_of_pos_right _ hw1
    have HOL : Hid (o1.length + wn + 1 ≤ 70368744177664) := Lib.hid (by omega)
    have HRC : Hid (∀ W : World, Below w.heap.size w W → ∀ x, x < wn → W.cell? ⟨b, o4 + x, none⟩ = some (.int .u8 (rw'.getD x 0))) := Lib.hid (fun W hW x hx => by
      rw [← ho4, ← hrw]
      exact row_cell (HM.out.below hW) HNM.out hxm hx)
    have HKW : Hid (IntKind.u8.wrap (kd : Int) = kd) := Lib.hid (by rw [IntKind.wrap_u8]; omega)
    have HKB : Hid (ck.byteI kd) := Lib.hid ⟨by omega, by omega⟩
    have HRWB : Hid (∀ x, ck.byteI (rw'.getD x 0)) := Lib.hid (by rw [← hrw]; exact fun x => byte_getD (fun v hv => HM.out.bytes v (List.mem_of_mem_drop (List.mem_of_mem_take hv))) x)
    have HABB : Hid (∀ x, ck.byteI (ab.getD x 0)) := Lib.hid (by rw [← hab]; exact fun x => byte_getD (fSt_bytes HM.out.bytes _) x)
    rw [hab] at hac
    have HAC : Hid (∀ (W : World) (oo : List Int) (va : Value), RowsI w w4.heap.size fix w0.heap.size (w0.heap.size + 1 + 1) oo va W → ∀ x, x < wn → W.cell? ⟨ag, ao + x, none⟩ = some (.int .u8 (ab.getD x 0))) := Lib.hid (fun W oo va hW x hx => hac W (HM.out.below hW.below) (hW.fix (w0.heap.size + 1, madeCells #[.int .u8 0] wn, 5) (by rw [HFX.out]; simp)) x hx)
    rw [ho1, hav] at hI
    have HI1 := Lib.hid hI
    have HNX : Hid (ck.fSt wn bn kd l ((pre ++ [(⟨xi, hxi⟩ : ChIx n wn)]).map (·.1)) = (o1 ++ ck.fTo kd bn ab rw' wn, rw')) := Lib.hid (by rw [List.map_append, List.map_cons, List.map_nil, ck.fSt_snoc, ho1, hab, hrw])
    have HAX : Hid (ck.aV b off wn (w0.heap.size + 1) ((pre ++ [(⟨xi, hxi⟩ : ChIx n wn)]).map (·.1)) = .slice (some ⟨b, o4, none⟩) wn wn) := Lib.hid (by rw [List.map_append, List.map_cons, List.map_nil, ck.aV_snoc, ho4])
    obtain ⟨vo, hvo, hro⟩ := hI.out
    have HVO := Lib.hid hvo
    have HRO := Lib.hid hro
    have k7 : W1.cell? ⟨w.heap.size + 1, 0, none⟩ = some (.int .i64 kd) := (cell_of_row _ _ 0 _ _ (0, 0) (hI.fix (w.heap.size + 1, #[.int .i64 kd], 3) (by rw [HFX.out]; simp))).trans rfl
    have kob := (cell_of_row _ _ 0 _ _ (0, 0) hvo).trans rfl
    rw [hcv, ho4]
    clear hI hvo hro hcv hpm hav hac ho1 hab hrw ho4 hmn hole
    have HSZ4 := Lib.hid SZ4
    have HXI := Lib.hid hxm
    clear z0 z3 SZ4 k1 k2 k3 c1 c2 hol hlen hxm
    refine wpIn_block (wpIn_seq_k ?_)
    intro K1 hK1
    have HK1 := Lib.hid hK1
    clear hK1
    have HU := Lib.hid ((Below.refl W1.heap.size W1).alloc (Nat.le_refl _) (.cells #[.int .u8 kd] 5))
    have HRU := Lib.hid (HRO.out.alloc (.cells #[.int .u8 kd] 5))
    have HSU : Hid (Sl .u8 (W1.alloc (.cells #[.int .u8 kd] 5)) (some ⟨W1.heap.size, 0, none⟩) 1 1 [(kd : Int)]) := Lib.hid (sl_bytes W1 [(kd : Int)] 5 (0, 0) W1.heap.size rfl (by simp [maxLen]) (wf_of_bytes (fun x hx => by rw [List.mem_singleton.1 hx]; omega)))
    have SZU : Hid (w4.heap.size ≤ (W1.alloc (.cells #[.int .u8 kd] 5)).heap.size) := Lib.hid (by
      have h1 := block_lt HVO.out
      have h2 := block_lt (HI1.out.fix (w3.heap.size + 1, #[.int .i64 wn], 3) (by rw [HFX.out]; simp))
      have h3 := HSZ4.out
      simp
      simp at h2
      omega)
    have HOLx := HOL.out
    refine round_region (by rintro ⟨_, _, h⟩; exact h) (by kernel_rfl) ?_
    go_wp2_with (at_builtin; go_must (refine wpList_of_append rfl (.tmp 42) (.tmp 45) 22 22 rfl (run_append_sl _ _ w4.heap.size vo o1.length o1 HRU.out (some ⟨W1.heap.size, 0, none⟩) 1 1 [(kd : Int)] HSU.out (by omega) SZU.out) ?_; rintro v2 w2 ⟨ho2, hg2⟩; obtain ⟨g2, cap2, rfl, _⟩ := own_form ho2 (Nat.succ_pos _); have HAP := Lib.hid (RowsI.app (v' := .slice (some ⟨g2, 0, none⟩) (o1.length + 1) cap2) (ys := [(kd : Int)]) HRA.out HI1.out HVO.out HRO.out HU.out hg2 (by rw [List.length_append]; exact ho2)); have c3 := (cell_of_row _ _ 0 _ _ (0, 0) HAP.out.1).trans rfl; have f3 := frozen_of_row _ _ 0 _ _ HAP.out.1; clear ho2 hg2))
    refine HK1.out _ _ ?_
    have HI2 := Lib.hid HAP.out.2.1
    have KO2 := Lib.hid HAP.out.2.2
    clear c3 f3 HAP HRU HSU SZU HU HRO HVO HI1 k7 kob HK1
    generalize w2.setCell ⟨w0.heap.size, 0, none⟩ (.slice (some ⟨g2, 0, none⟩) (o1.length + 1) cap2) = W2 at *
    gi_wp2
    gi_loopg [49] wn (fun gk i wr => ∃ x : Nat, x ≤ wn ∧ gk = wn - x ∧ i = .int .i64 x ∧ RowsI w w4.heap.size fix w0.heap.size (w0.heap.size + 1 + 1) (o1 ++ ck.fTo kd bn ab rw' x) (.slice (some ⟨ag, ao, none⟩) wn wn) wr ∧ KeepsOthers W1 wr)
    case atStart => exact ⟨0, Nat.zero_le _, rfl, rfl, HI2.out, KO2.out⟩
    case round =>
      obtain ⟨x, hx, hg, rfl, hIx, hko⟩ := hrel
      have Hg := Lib.hid hg
      have HIx := Lib.hid hIx
      have KOx := Lib.hid hko
      clear hg hIx hko HI2 KO2
      by_cases hlt : x < wn
      · have xr := HRC.out wr HIx.out.below x hlt
        obtain ⟨rv, hrv⟩ : ∃ y, rw'.getD x 0 = y := ⟨_, rfl⟩
        rw [hrv] at xr
        have HRV := Lib.hid hrv
        clear hrv
        obtain ⟨fb, hfb⟩ : ∃ y, y = ck.fByte kd bn ab rw' x := ⟨_, rfl⟩
        have HFBV2 := Lib.hid hfb
        clear hfb
        have x6 : wr.cell? ⟨w.heap.size, 0, none⟩ = some (.int .i64 bn) := (cell_of_row _ _ 0 _ _ (0, 0) (HIx.out.fix (w.heap.size, #[.int .i64 bn], 3) (by rw [HFX.out]; simp))).trans rfl
        by_cases hge : bn ≤ x
        · have hgi : (bn : Int) ≤ (x : Int) := by omega
          obtain ⟨d, hd⟩ : ∃ d, d = x - bn := ⟨_, rfl⟩
          have hdx : (x : Int) - (bn : Int) = (d : Int) := by omega
          have hdw : IntKind.i64.wrap ((x : Int) - (bn : Int)) = (d : Int) := by rw [hdx]; exact IntWalk.i64_in _ (by omega)
          have hdn : d < wn := by omega
          have xd := HRC.out wr HIx.out.below d hdn
          have ad := HAC.out wr _ _ HIx.out d hdn
          obtain ⟨pa, hpa⟩ : ∃ y, rw'.getD d 0 = y := ⟨_, rfl⟩
          obtain ⟨pc, hpc⟩ : ∃ y, ab.getD d 0 = y := ⟨_, rfl⟩
          rw [hpa] at xd
          rw [hpc] at ad
          have HFBV : Hid (fb = (rv - ck.gs kd pa (ab.getD x 0) pc) % 256) := Lib.hid (by rw [HFBV2.out]; unfold ck.fByte ck.px; rw [if_pos hge, if_pos hge, ← hd, hpa, hpc, HRV.out])
          have HPAB : Hid (ck.byteI pa) := Lib.hid (by rw [← hpa]; exact HRWB.out d)
          have HPCB : Hid (ck.byteI pc) := Lib.hid (by rw [← hpc]; exact HABB.out d)
          clear hpa hpc
          have x4 := (cell_of_row _ _ 0 _ _ (0, 0) HIx.out.above).trans rfl
          have HD := Lib.hid hd
          clear hd
          have y6 := cell_regrown x6
          have yd := cell_regrown xd
          have ya := cell_regrown ad
          have y4 := cell_regrown x4
          gi_wp2
          refine round_region_quiet (by rintro ⟨_, _, h⟩; exact h) (by kernel_rfl) (by kernel_rfl) (by kernel_rfl) ?_
          repeat (go_big_quiet_step (fail))
          refine wpQuiet_nil ?_
          intro _ hw'
          obtain ⟨⟨dq, osq⟩, hw''⟩ := hw'
          subst hw''
          have HBq := Lib.hid (below_regrown wr dq osq)
          clear x4 x6 xr xd ad y6 yd ya y4
          generalize grow (redrawn wr dq) osq = wq at *
          have HIq := Lib.hid (HIx.out.below' HBq.out)
          have KOq := Lib.hid (KOx.out.trans (keepsOthers_below HBq.out))
          clear hgi hdx hdw hdn
          gi_wp2
          obtain ⟨vq, hvq, hrq⟩ := HIq.out.out
          have HVQ := Lib.hid hvq
          have HRQ := Lib.hid hrq
          obtain ⟨nq, hnq⟩ : ∃ y, y = (o1 ++ ck.fTo kd bn ab rw' x).length := ⟨_, rfl⟩
          have HNQ := Lib.hid hnq
          have hnq2 : nq = o1.length + (x + 1) := by rw [hnq, List.length_append, ck.fTo_length]
          have hsm : nq + 1 ≤ 140737488355328 := by omega
          have HSM := Lib.hid hsm
          rw [← hnq] at hrq
          have HRN := Lib.hid hrq
          clear hnq hnq2 hsm
          have cob := (cell_of_row _ _ 0 _ _ (0, 0) hvq).trans rfl
          have ckd : wq.cell? ⟨w.heap.size + 1, 0, none⟩ = some (.int .i64 kd) := (cell_of_row _ _ 0 _ _ (0, 0) (HIq.out.fix (w.heap.size + 1, #[.int .i64 kd], 3) (by rw [HFX.out]; simp))).trans rfl
          have cab := (cell_of_row _ _ 0 _ _ (0, 0) HIq.out.above).trans rfl
          have cav := HAC.out _ _ _ HIq.out x hlt
          obtain ⟨av, hav⟩ : ∃ y, ab.getD x 0 = y := ⟨_, rfl⟩
          rw [hav] at cav
          obtain ⟨gv, hgv⟩ : ∃ y, ck.gs kd pa av pc = y := ⟨_, rfl⟩
          have hfb0 : fb = (rv - gv) % 256 := by rw [HFBV.out, ← hgv, ← hav]
          have HFB : Hid (IntKind.u8.wrap (rv - gv) = fb) := Lib.hid (by rw [IntKind.wrap_u8, hfb0])
          have HFBB : Hid (0 ≤ fb ∧ fb < 256) := Lib.hid (by omega)
          have HAVB : Hid (ck.byteI av) := Lib.hid (by rw [← hav]; exact HABB.out x)
          have HGV := Lib.hid hgv
          clear hvq hrq hav hgv hfb0
          refine round_region_tails 13 (by rintro ⟨_, _, h⟩; exact h) (by kernel_rfl) (by decide) (D := fun i => ([69, 70, 71, 72, 73, 74, 75, 76, 77, 78, 79, 80, 81] : List Nat).getD i 0)
            (R := fun i v w' => match i with
              | 0 => vq = v
              | 1 => v = .int .u8 rv
              | 2 => v = .int .i64 kd
              | 3 => v = .int .u8 kd
              | 4 => v = .int .u8 pa
              | 5 => v = .slice (some ⟨ag, ao, none⟩) wn wn
              | 6 => v = .int .i64 x
              | 7 => v = .pointer (some ⟨ag, ao + x, none⟩)
              | 8 => v = .int .u8 av
              | 9 => v = .int .u8 pc
              | 10 => v = .int .u8 gv
              | 11 => v = .int .u8 fb
              | 12 => ∃ g, v = .slice (some ⟨g, 0, none⟩) 1 1 ∧ Sl .u8 w' (some ⟨g, 0, none⟩) 1 1 [fb]
              | _ => True)
            (S := fun a' w' => (a'.tmps[7]? = some (.pointer (some ⟨w.heap.size + 1, 0, none⟩)) ∧ a'.tmps[10]? = some (.pointer (some ⟨w0.heap.size, 0, none⟩)) ∧ a'.tmps[11]? = some (.pointer (some ⟨w0.heap.size + 1 + 1, 0, none⟩)) ∧ a'.tmps[13]? = some (.int .i64 x) ∧ a'.tmps[14]? = some (.int .u8 rv) ∧ a'.tmps[15]? = some (.int .u8 pa) ∧ a'.tmps[16]? = some (.int .u8 pc)) ∧ Below wq.heap.size wq w')
            (by kernel_rfl) (by decide +kernel) (by decide +kernel) (by decide +kernel) (by decide +kernel) (by kernel_rfl) (by kernel_rfl) ?_ ?_ ?_ ?_
          · intro i v u u' h hb
            match i, h with
            | 0, h => exact h
            | 1, h => exact h
            | 2, h => exact h
            | 3, h => exact h
            | 4, h => exact h
            | 5, h => exact h
            | 6, h => exact h
            | 7, h => exact h
            | 8, h => exact h
            | 9, h => exact h
            | 10, h => exact h
            | 11, h => exact h
            | 12, h => (obtain ⟨g, h1, h2⟩ := h; exact ⟨g, h1, h2.below hb⟩)
            | i + 13, _ => trivial
          · intro a' u hb _ hold
            exact ⟨⟨hold 7 (by decide), hold 10 (by decide), hold 11 (by decide), hold 13 (by decide), hold 14 (by decide), hold 15 (by decide), hold 16 (by decide)⟩, hb⟩
          · refine ⟨?_, ?_, ?_, ?_, ?_, ?_, ?_, ?_, ?_, ?_, ?_, ?_, ?_, trivial⟩
            · intro a' u hS hd
              clear hd
              have g0 := hS.1.2.1
              have x0 := keep_cell hS.2 cob
              go_simp
              exact ⟨_, rfl, rfl, Below.refl _ _⟩
            · intro a' u hS hd
              clear hd
              have g0 := hS.1.2.2.2.2.1
              go_simp
              exact ⟨_, rfl, rfl, Below.refl _ _⟩
            · intro a' u hS hd
              clear hd
              have g0 := hS.1.1
              have x0 := keep_cell hS.2 ckd
              go_simp
              exact ⟨_, rfl, rfl, Below.refl _ _⟩
            · intro a' u hS hd
              obtain ⟨_, e0, rfl⟩ := hd 2 (by kernel_rfl)
              have f0 : a'.tmps[71]? = some _ := e0
              clear e0
              clear hd
              have q0 := HKW.out
              go_simp
              exact ⟨_, rfl, rfl, Below.refl _ _⟩
            · intro a' u hS hd
              clear hd
              have g0 := hS.1.2.2.2.2.2.1
              go_simp
              exact ⟨_, rfl, rfl, Below.refl _ _⟩
            · intro a' u hS hd
              clear hd
              have g0 := hS.1.2.2.1
              have x0 := keep_cell hS.2 cab
              go_simp
              exact ⟨_, rfl, rfl, Below.refl _ _⟩
            · intro a' u hS hd
              clear hd
              have g0 := hS.1.2.2.2.1
              go_simp
              exact ⟨_, rfl, rfl, Below.refl _ _⟩
            · intro a' u hS hd
              obtain ⟨_, e0, rfl⟩ := hd 5 (by kernel_rfl)
              have f0 : a'.tmps[74]? = some _ := e0
              clear e0
              obtain ⟨_, e1, rfl⟩ := hd 6 (by kernel_rfl)
              have f1 : a'.tmps[75]? = some _ := e1
              clear e1
              clear hd
              go_simp
              exact ⟨_, rfl, rfl, Below.refl _ _⟩
            · intro a' u hS hd
              obtain ⟨_, e0, rfl⟩ := hd 7 (by kernel_rfl)
              have f0 : a'.tmps[76]? = some _ := e0
              clear e0
              clear hd
              have x0 := keep_cell hS.2 cav
              go_simp
              exact ⟨_, rfl, rfl, Below.refl _ _⟩
            · intro a' u hS hd
              clear hd
              have g0 := hS.1.2.2.2.2.2.2
              go_simp
              exact ⟨_, rfl, rfl, Below.refl _ _⟩
            · intro a' u hS hd
              obtain ⟨_, e0, rfl⟩ := hd 3 (by kernel_rfl)
              have f0 : a'.tmps[72]? = some _ := e0
              clear e0
              obtain ⟨_, e1, rfl⟩ := hd 4 (by kernel_rfl)
              have f1 : a'.tmps[73]? = some _ := e1
              clear e1
              obtain ⟨_, e2, rfl⟩ := hd 8 (by kernel_rfl)
              have f2 : a'.tmps[77]? = some _ := e2
              clear e2
              obtain ⟨_, e3, rfl⟩ := hd 9 (by kernel_rfl)
              have f3 : a'.tmps[78]? = some _ := e3
              clear e3
              clear hd
              go_simp
              rw [← HGV.out]
              refine (guess_any _ _ _ _ _ HKB.out HPAB.out HAVB.out HPCB.out).mono ?_
              rintro e u' ⟨rfl, rfl⟩
              exact ⟨_, rfl, rfl, Below.refl _ _⟩
            · intro a' u hS hd
              obtain ⟨_, e0, rfl⟩ := hd 1 (by kernel_rfl)
              have f0 : a'.tmps[70]? = some _ := e0
              clear e0
              obtain ⟨_, e1, rfl⟩ := hd 10 (by kernel_rfl)
              have f1 : a'.tmps[79]? = some _ := e1
              clear e1
              clear hd
              have q0 := HFB.out
              go_simp
              exact ⟨_, rfl, rfl, Below.refl _ _⟩
            · intro a' u hS hd
              obtain ⟨_, e0, rfl⟩ := hd 11 (by kernel_rfl)
              have f0 : a'.tmps[80]? = some _ := e0
              clear e0
              clear hd
              go_simp
              exact ⟨_, rfl, ⟨_, rfl, sl_bytes u [fb] 5 (0, 0) u.heap.size rfl (by simp [maxLen]) (wf_of_bytes (fun x hx => by rw [List.mem_singleton.1 hx]; exact HFBB.out))⟩, (Below.refl _ _).alloc (Nat.le_refl _) _⟩
          · intro a' u h
            obtain ⟨_, e0, rfl⟩ := h.new 0 (by decide) (by decide +kernel)
            obtain ⟨_, e1, rfl⟩ := h.new 1 (by decide) (by decide +kernel)
            obtain ⟨_, e2, rfl⟩ := h.new 2 (by decide) (by decide +kernel)
            obtain ⟨_, e3, rfl⟩ := h.new 3 (by decide) (by decide +kernel)
            obtain ⟨_, e4, rfl⟩ := h.new 4 (by decide) (by decide +kernel)
            obtain ⟨_, e5, rfl⟩ := h.new 5 (by decide) (by decide +kernel)
            obtain ⟨_, e6, rfl⟩ := h.new 6 (by decide) (by decide +kernel)
            obtain ⟨_, e7, rfl⟩ := h.new 7 (by decide) (by decide +kernel)
            obtain ⟨_, e8, rfl⟩ := h.new 8 (by decide) (by decide +kernel)
            obtain ⟨_, e9, rfl⟩ := h.new 9 (by decide) (by decide +kernel)
            obtain ⟨_, e10, rfl⟩ := h.new 10 (by decide) (by decide +kernel)
            obtain ⟨_, e11, rfl⟩ := h.new 11 (by decide) (by decide +kernel)
            obtain ⟨_, e12, gl, rfl, hgl⟩ := h.new 12 (by decide) (by decide +kernel)
            have ht := set_all (Ds := [69, 70, 71, 72, 73, 74, 75, 76, 77, 78, 79, 80, 81]) [(69, vq), (70, .int .u8 rv), (71, .int .i64 kd), (72, .int .u8 kd), (73, .int .u8 pa), (74, .slice (some ⟨ag, ao, none⟩) wn wn), (75, .int .i64 x), (76, .pointer (some ⟨ag, ao + x, none⟩)), (77, .int .u8 av), (78, .int .u8 pc), (79, .int .u8 gv), (80, .int .u8 fb), (81, .slice (some ⟨gl, 0, none⟩) 1 1)] rfl (by simp only [List.forall_mem_cons]; exact ⟨e0, e1, e2, e3, e4, e5, e6, e7, e8, e9, e10, e11, e12, fun _ h => nomatch h⟩) h.old h.size
            have hdf := h.defers
            have HBu := Lib.hid h.below
            clear h e0 e1 e2 e3 e4 e5 e6 e7 e8 e9 e10 e11 e12
            obtain ⟨tmps, defers⟩ := a'
            dsimp only at ht hdf
            subst hdf
            rw [ht]
            clear ht
            simp only [List.foldl_cons, List.foldl_nil, List.setIfInBounds_toArray, List.set_cons_zero, List.set_cons_succ]
            have HRu := Lib.hid (ownsRow_below HRN.out HBu.out)
            have HSl := Lib.hid hgl
            have SZu : w4.heap.size ≤ u.heap.size := by
              have h2 := block_lt (HIq.out.fix (w3.heap.size + 1, #[.int .i64 wn], 3) (by rw [HFX.out]; simp))
              have h3 := HBu.out.size
              have h4 := HSZ4.out
              dsimp only at h2
              omega
            clear hgl cob ckd cab cav
            simp only [List.drop_succ_cons, List.drop_zero]
            refine wpList_of_append rfl (.tmp 69) (.tmp 81) 22 22 rfl (run_append_sl _ _ w4.heap.size vq nq _ HRu.out (some ⟨gl, 0, none⟩) 1 1 [fb] HSl.out HSM.out SZu) ?_
            rintro v5 w5 ⟨ho5, hg5⟩
            obtain ⟨g5, cap5, rfl, _⟩ := own_form ho5 (Nat.succ_pos _)
            have HAP := Lib.hid (RowsI.app (v' := .slice (some ⟨g5, 0, none⟩) (nq + 1) cap5) (ys := [fb]) HRA.out HIq.out HVQ.out HRQ.out HBu.out hg5 (by rw [List.length_append, ← HNQ.out]; exact ho5))
            have c5 := (cell_of_row _ _ 0 _ _ (0, 0) HAP.out.1).trans rfl
            have f5 := frozen_of_row _ _ 0 _ _ HAP.out.1
            clear ho5 hg5 SZu
            go_wp2_with fail
            gi_wp2
            have HI9 := HAP.out.2.1
            rw [List.append_assoc, show ck.fTo kd bn ab rw' x ++ [fb] = ck.fTo kd bn ab rw' (x + 1) by rw [ck.fTo_succ, HFBV2.out]] at HI9
            go_roundg (wn - (x + 1))
            case measure => have := Hg.out; omega
            case rel => exact ⟨x + 1, by omega, rfl, by go_num, HI9, KOq.out.trans HAP.out.2.2⟩
        · have hgi : ¬ (bn : Int) ≤ (x : Int) := by omega
          have HFBV : Hid (fb = (rv - ck.gs kd 0 (ab.getD x 0) 0) % 256) := Lib.hid (by rw [HFBV2.out]; unfold ck.fByte ck.px; rw [if_neg hge, if_neg hge, HRV.out])
          have HPAB : Hid (ck.byteI 0) := Lib.hid ⟨by decide, by decide⟩
          have HPCB : Hid (ck.byteI 0) := Lib.hid ⟨by decide, by decide⟩
          have HIq := Lib.hid HIx.out
          have KOq := Lib.hid KOx.out
          gi_wp2
          clear xr x6 hgi
          obtain ⟨vq, hvq, hrq⟩ := HIq.out.out
          have HVQ := Lib.hid hvq
          have HRQ := Lib.hid hrq
          obtain ⟨nq, hnq⟩ : ∃ y, y = (o1 ++ ck.fTo kd bn ab rw' x).length := ⟨_, rfl⟩
          have HNQ := Lib.hid hnq
          have hnq2 : nq = o1.length + (x + 1) := by rw [hnq, List.length_append, ck.fTo_length]
          have hsm : nq + 1 ≤ 140737488355328 := by omega
          have HSM := Lib.hid hsm
          rw [← hnq] at hrq
          have HRN := Lib.hid hrq
          clear hnq hnq2 hsm
          have cob := (cell_of_row _ _ 0 _ _ (0, 0) hvq).trans rfl
          have ckd : wr.cell? ⟨w.heap.size + 1, 0, none⟩ = some (.int .i64 kd) := (cell_of_row _ _ 0 _ _ (0, 0) (HIq.out.fix (w.heap.size + 1, #[.int .i64 kd], 3) (by rw [HFX.out]; simp))).trans rfl
          have cab := (cell_of_row _ _ 0 _ _ (0, 0) HIq.out.above).trans rfl
          have cav := HAC.out _ _ _ HIq.out x hlt
          obtain ⟨av, hav⟩ : ∃ y, ab.getD x 0 = y := ⟨_, rfl⟩
          rw [hav] at cav
          obtain ⟨gv, hgv⟩ : ∃ y, ck.gs kd 0 av 0 = y := ⟨_, rfl⟩
          have hfb0 : fb = (rv - gv) % 256 := by rw [HFBV.out, ← hgv, ← hav]
          have HFB : Hid (IntKind.u8.wrap (rv - gv) = fb) := Lib.hid (by rw [IntKind.wrap_u8, hfb0])
          have HFBB : Hid (0 ≤ fb ∧ fb < 256) := Lib.hid (by omega)
          have HAVB : Hid (ck.byteI av) := Lib.hid (by rw [← hav]; exact HABB.out x)
          have HGV := Lib.hid hgv
          clear hvq hrq hav hgv hfb0
          refine round_region_tails 13 (by rintro ⟨_, _, h⟩; exact h) (by kernel_rfl) (by decide) (D := fun i => ([69, 70, 71, 72, 73, 74, 75, 76, 77, 78, 79, 80, 81] : List Nat).getD i 0)
            (R := fun i v w' => match i with
              | 0 => vq = v
              | 1 => v = .int .u8 rv
              | 2 => v = .int .i64 kd
              | 3 => v = .int .u8 kd
              | 4 => v = .int .u8 0
              | 5 => v = .slice (some ⟨ag, ao, none⟩) wn wn
              | 6 => v = .int .i64 x
              | 7 => v = .pointer (some ⟨ag, ao + x, none⟩)
              | 8 => v = .int .u8 av
              | 9 => v = .int .u8 0
              | 10 => v = .int .u8 gv
              | 11 => v = .int .u8 fb
              | 12 => ∃ g, v = .slice (some ⟨g, 0, none⟩) 1 1 ∧ Sl .u8 w' (some ⟨g, 0, none⟩) 1 1 [fb]
              | _ => True)
            (S := fun a' w' => (a'.tmps[7]? = some (.pointer (some ⟨w.heap.size + 1, 0, none⟩)) ∧ a'.tmps[10]? = some (.pointer (some ⟨w0.heap.size, 0, none⟩)) ∧ a'.tmps[11]? = some (.pointer (some ⟨w0.heap.size + 1 + 1, 0, none⟩)) ∧ a'.tmps[13]? = some (.int .i64 x) ∧ a'.tmps[14]? = some (.int .u8 rv) ∧ a'.tmps[15]? = some (.int .u8 0) ∧ a'.tmps[16]? = some (.int .u8 0)) ∧ Below wr.heap.size wr w')
            (by kernel_rfl) (by decide +kernel) (by decide +kernel) (by decide +kernel) (by decide +kernel) (by kernel_rfl) (by kernel_rfl) ?_ ?_ ?_ ?_
          · intro i v u u' h hb
            match i, h with
            | 0, h => exact h
            | 1, h => exact h
            | 2, h => exact h
            | 3, h => exact h
            | 4, h => exact h
            | 5, h => exact h
            | 6, h => exact h
            | 7, h => exact h
            | 8, h => exact h
            | 9, h => exact h
            | 10, h => exact h
            | 11, h => exact h
            | 12, h => (obtain ⟨g, h1, h2⟩ := h; exact ⟨g, h1, h2.below hb⟩)
            | i + 13, _ => trivial
          · intro a' u hb _ hold
            exact ⟨⟨hold 7 (by decide), hold 10 (by decide), hold 11 (by decide), hold 13 (by decide), hold 14 (by decide), hold 15 (by decide), hold 16 (by decide)⟩, hb⟩
          · refine ⟨?_, ?_, ?_, ?_, ?_, ?_, ?_, ?_, ?_, ?_, ?_, ?_, ?_, trivial⟩
            · intro a' u hS hd
              clear hd
              have g0 := hS.1.2.1
              have x0 := keep_cell hS.2 cob
              go_simp
              exact ⟨_, rfl, rfl, Below.refl _ _⟩
            · intro a' u hS hd
              clear hd
              have g0 := hS.1.2.2.2.2.1
              go_simp
              exact ⟨_, rfl, rfl, Below.refl _ _⟩
            · intro a' u hS hd
              clear hd
              have g0 := hS.1.1
              have x0 := keep_cell hS.2 ckd
              go_simp
              exact ⟨_, rfl, rfl, Below.refl _ _⟩
            · intro a' u hS hd
              obtain ⟨_, e0, rfl⟩ := hd 2 (by kernel_rfl)
              have f0 : a'.tmps[71]? = some _ := e0
              clear e0
              clear hd
              have q0 := HKW.out
              go_simp
              exact ⟨_, rfl, rfl, Below.refl _ _⟩
            · intro a' u hS hd
              clear hd
              have g0 := hS.1.2.2.2.2.2.1
              go_simp
              exact ⟨_, rfl, rfl, Below.refl _ _⟩
            · intro a' u hS hd
              clear hd
              have g0 := hS.1.2.2.1
              have x0 := keep_cell hS.2 cab
              go_simp
              exact ⟨_, rfl, rfl, Below.refl _ _⟩
            · intro a' u hS hd
              clear hd
              have g0 := hS.1.2.2.2.1
              go_simp
              exact ⟨_, rfl, rfl, Below.refl _ _⟩
            · intro a' u hS hd
              obtain ⟨_, e0, rfl⟩ := hd 5 (by kernel_rfl)
              have f0 : a'.tmps[74]? = some _ := e0
              clear e0
              obtain ⟨_, e1, rfl⟩ := hd 6 (by kernel_rfl)
              have f1 : a'.tmps[75]? = some _ := e1
              clear e1
              clear hd
              go_simp
              exact ⟨_, rfl, rfl, Below.refl _ _⟩
            · intro a' u hS hd
              obtain ⟨_, e0, rfl⟩ := hd 7 (by kernel_rfl)
              have f0 : a'.tmps[76]? = some _ := e0
              clear e0
              clear hd
              have x0 := keep_cell hS.2 cav
              go_simp
              exact ⟨_, rfl, rfl, Below.refl _ _⟩
            · intro a' u hS hd
              clear hd
              have g0 := hS.1.2.2.2.2.2.2
              go_simp
              exact ⟨_, rfl, rfl, Below.refl _ _⟩
            · intro a' u hS hd
              obtain ⟨_, e0, rfl⟩ := hd 3 (by kernel_rfl)
              have f0 : a'.tmps[72]? = some _ := e0
              clear e0
              obtain ⟨_, e1, rfl⟩ := hd 4 (by kernel_rfl)
              have f1 : a'.tmps[73]? = some _ := e1
              clear e1
              obtain ⟨_, e2, rfl⟩ := hd 8 (by kernel_rfl)
              have f2 : a'.tmps[77]? = some _ := e2
              clear e2
              obtain ⟨_, e3, rfl⟩ := hd 9 (by kernel_rfl)
              have f3 : a'.tmps[78]? = some _ := e3
              clear e3
              clear hd
              go_simp
              rw [← HGV.out]
              refine (guess_any _ _ _ _ _ HKB.out HPAB.out HAVB.out HPCB.out).mono ?_
              rintro e u' ⟨rfl, rfl⟩
              exact ⟨_, rfl, rfl, Below.refl _ _⟩
            · intro a' u hS hd
              obtain ⟨_, e0, rfl⟩ := hd 1 (by kernel_rfl)
              have f0 : a'.tmps[70]? = some _ := e0
              clear e0
              obtain ⟨_, e1, rfl⟩ := hd 10 (by kernel_rfl)
              have f1 : a'.tmps[79]? = some _ := e1
              clear e1
              clear hd
              have q0 := HFB.out
              go_simp
              exact ⟨_, rfl, rfl, Below.refl _ _⟩
            · intro a' u hS hd
              obtain ⟨_, e0, rfl⟩ := hd 11 (by kernel_rfl)
              have f0 : a'.tmps[80]? = some _ := e0
              clear e0
              clear hd
              go_simp
              exact ⟨_, rfl, ⟨_, rfl, sl_bytes u [fb] 5 (0, 0) u.heap.size rfl (by simp [maxLen]) (wf_of_bytes (fun x hx => by rw [List.mem_singleton.1 hx]; exact HFBB.out))⟩, (Below.refl _ _).alloc (Nat.le_refl _) _⟩
          · intro a' u h
            obtain ⟨_, e0, rfl⟩ := h.new 0 (by decide) (by decide +kernel)
            obtain ⟨_, e1, rfl⟩ := h.new 1 (by decide) (by decide +kernel)
            obtain ⟨_, e2, rfl⟩ := h.new 2 (by decide) (by decide +kernel)
            obtain ⟨_, e3, rfl⟩ := h.new 3 (by decide) (by decide +kernel)
            obtain ⟨_, e4, rfl⟩ := h.new 4 (by decide) (by decide +kernel)
            obtain ⟨_, e5, rfl⟩ := h.new 5 (by decide) (by decide +kernel)
            obtain ⟨_, e6, rfl⟩ := h.new 6 (by decide) (by decide +kernel)
            obtain ⟨_, e7, rfl⟩ := h.new 7 (by decide) (by decide +kernel)
            obtain ⟨_, e8, rfl⟩ := h.new 8 (by decide) (by decide +kernel)
            obtain ⟨_, e9, rfl⟩ := h.new 9 (by decide) (by decide +kernel)
            obtain ⟨_, e10, rfl⟩ := h.new 10 (by decide) (by decide +kernel)
            obtain ⟨_, e11, rfl⟩ := h.new 11 (by decide) (by decide +kernel)
            obtain ⟨_, e12, gl, rfl, hgl⟩ := h.new 12 (by decide) (by decide +kernel)
            have ht := set_all (Ds := [69, 70, 71, 72, 73, 74, 75, 76, 77, 78, 79, 80, 81]) [(69, vq), (70, .int .u8 rv), (71, .int .i64 kd), (72, .int .u8 kd), (73, .int .u8 0), (74, .slice (some ⟨ag, ao, none⟩) wn wn), (75, .int .i64 x), (76, .pointer (some ⟨ag, ao + x, none⟩)), (77, .int .u8 av), (78, .int .u8 0), (79, .int .u8 gv), (80, .int .u8 fb), (81, .slice (some ⟨gl, 0, none⟩) 1 1)] rfl (by simp only [List.forall_mem_cons]; exact ⟨e0, e1, e2, e3, e4, e5, e6, e7, e8, e9, e10, e11, e12, fun _ h => nomatch h⟩) h.old h.size
            have hdf := h.defers
            have HBu := Lib.hid h.below
            clear h e0 e1 e2 e3 e4 e5 e6 e7 e8 e9 e10 e11 e12
            obtain ⟨tmps, defers⟩ := a'
            dsimp only at ht hdf
            subst hdf
            rw [ht]
            clear ht
            simp only [List.foldl_cons, List.foldl_nil, List.setIfInBounds_toArray, List.set_cons_zero, List.set_cons_succ]
            have HRu := Lib.hid (ownsRow_below HRN.out HBu.out)
            have HSl := Lib.hid hgl
            have SZu : w4.heap.size ≤ u.heap.size := by
              have h2 := block_lt (HIq.out.fix (w3.heap.size + 1, #[.int .i64 wn], 3) (by rw [HFX.out]; simp))
              have h3 := HBu.out.size
              have h4 := HSZ4.out
              dsimp only at h2
              omega
            clear hgl cob ckd cab cav
            simp only [List.drop_succ_cons, List.drop_zero]
            refine wpList_of_append rfl (.tmp 69) (.tmp 81) 22 22 rfl (run_append_sl _ _ w4.heap.size vq nq _ HRu.out (some ⟨gl, 0, none⟩) 1 1 [fb] HSl.out HSM.out SZu) ?_
            rintro v5 w5 ⟨ho5, hg5⟩
            obtain ⟨g5, cap5, rfl, _⟩ := own_form ho5 (Nat.succ_pos _)
            have HAP := Lib.hid (RowsI.app (v' := .slice (some ⟨g5, 0, none⟩) (nq + 1) cap5) (ys := [fb]) HRA.out HIq.out HVQ.out HRQ.out HBu.out hg5 (by rw [List.length_append, ← HNQ.out]; exact ho5))
            have c5 := (cell_of_row _ _ 0 _ _ (0, 0) HAP.out.1).trans rfl
            have f5 := frozen_of_row _ _ 0 _ _ HAP.out.1
            clear ho5 hg5 SZu
            go_wp2_with fail
            gi_wp2
            have HI9 := HAP.out.2.1
            rw [List.append_assoc, show ck.fTo kd bn ab rw' x ++ [fb] = ck.fTo kd bn ab rw' (x + 1) by rw [ck.fTo_succ, HFBV2.out]] at HI9
            go_roundg (wn - (x + 1))
            case measure => have := Hg.out; omega
            case rel => exact ⟨x + 1, by omega, rfl, by go_num, HI9, KOq.out.trans HAP.out.2.2⟩
      · obtain rfl : x = wn := by omega
        have x4 := (cell_of_row _ _ 0 _ _ (0, 0) HIx.out.above).trans rfl
        have f4 := frozen_of_row _ _ 0 _ _ HIx.out.above
        gi_wp2
        have h9 := RowsI.setAbove HRA.out HIx.out (.slice (some ⟨b, o4, none⟩) x x)
        refine ⟨KOx.out.trans h9.2, RowsI.two HI.out h9.1 (x := #[.slice (some ⟨b, off, none⟩) n cap]) (y := #[.int .i64 x]) (s := 22) (t := 3) (by rw [HFX.out]; simp) (by rw [HFX.out]; simp), ?_⟩
        show RowsI w w4.heap.size fix w0.heap.size (w0.heap.size + 1 + 1) (ck.fSt x bn kd l ((pre ++ [(⟨xi, hxi⟩ : ChIx n x)]).map (·.1))).1 (ck.aV b off x (w0.heap.size + 1) ((pre ++ [(⟨xi, hxi⟩ : ChIx n x)]).map (·.1))) _
        rw [HNX.out, HAX.out]
        exact h9.1
  case done =>
    rintro D ys W1 hD ⟨hS1, hS2⟩ hI hK
    have hS3 : ys.map (·.1) = List.range ys.length := hS2
    have hyl : ys.length = m := by rw [hS1, HCH.out]
    obtain ⟨vo, hvo, hro⟩ := hI.out
    have hout : (ck.fSt wn bn kd l (ys.map (·.1))).1 = ck.filtTo wn bn kd l m := by rw [hS3, hyl, ck.fSt_range]
    rw [hout] at hro
    have HRO := Lib.hid hro
    have HKD := Lib.hid hK
    have HBL := Lib.hid hI.below
    have hDw : w.heap.size ≤ D := by omega
    have hw4 : w.heap.size ≤ w4.heap.size := by omega
    have kob := (cell_of_row _ _ 0 _ _ (0, 0) hvo).trans rfl
    clear hro hK hI hS1 hS2 hS3 hyl hout hvo z0 z3 SZ4 hD c1 c2 B4
    go_wp2_with fail
    refine ⟨by simp, .inl ⟨_, _, rfl, run_takeDeferred HKD.out, ?_⟩⟩
    exact ⟨_, results_tmp2 rfl _ _ _, ⟨vo, rfl, World.ownsRow.mono (own_row (grownBy_putObj' _ D (.deferred none)) (fun r e => by cases e; exact ⟨_, HKD.out, rfl⟩) HRO.out) hw4, take_deferred_below hDw (Nat.le_refl _) HBL.out _⟩⟩
  case stop =>
    rintro D c pre W1 _ _ h _
    exact h.elim

def ck.filtR (width bpp kind : Int) (l : List Int) : Option (List Int) := if ck.filtOk l.length width bpp kind then some (ck.filt width bpp kind l) else none
theorem filter_any (p : Option Addr) (b off n cap : Nat) (width bpp kind : Int) (l : List Int) (w : World) (h : Sl .u8 w p n cap l) (hp : n = 0 ∨ p = some ⟨b, off, none⟩) (hn : n ≤ 35184372088832) (hk1 : -9223372036854775808 ≤ kind) (hk2 : kind ≤ 9223372036854775807) :
    Calls Tryd.prog 19 #[.slice p n cap, .int .i64 width, .int .i64 bpp, .int .i64 kind] w (FilterPost (ck.filtR width bpp kind l) w) := by
  unfold ck.filtR
  rw [h.len]
  by_cases hok : ck.filtOk n width bpp kind
  · rw [if_pos hok]
    obtain ⟨h1, h2, h3, h4⟩ := hok
    obtain ⟨q1, q2, q3, q4⟩ := of_decide_eq_true h1
    obtain ⟨wn, rfl⟩ : ∃ wn : Nat, width = wn := ⟨width.toNat, by omega⟩
    obtain ⟨bn, rfl⟩ : ∃ bn : Nat, bpp = bn := ⟨bpp.toNat, by omega⟩
    obtain ⟨kd, rfl⟩ : ∃ kd : Nat, kind = kd := ⟨kind.toNat, by omega⟩
    rw [Int.toNat_natCast] at h4
    have hd := Nat.div_add_mod n wn
    rw [h4, Nat.add_zero, Nat.mul_comm] at hd
    have := filter_yes p b off n cap wn bn kd (n / wn) l w h hp (by omega) (by omega) (by omega) (by omega) (by omega) hd.symm hn
    unfold ck.filt
    rw [Int.toNat_natCast, Int.toNat_natCast, h.len]
    exact this
  · rw [if_neg hok]
    exact filter_no width bpp kind p n cap w (by omega) hk1 hk2 hok
end Go.Proofs.YtfaemhmefijaoaaDoor
