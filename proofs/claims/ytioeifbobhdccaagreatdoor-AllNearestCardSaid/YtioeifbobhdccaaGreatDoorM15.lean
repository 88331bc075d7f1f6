/- raster.Grid: the grid of an image's colours. -/
import Derived.Test.YtioeifbobhdccaaGreatDoorM14
namespace Go.Proofs.YtioeifbobhdccaaGreatDoor
open Go.RowKit Go.Sort Go.Shelf
attribute [local go_sem] Oper.semAt_some
/-- an image's colours -/
def cols (l : List Int) (N : Nat) : List C4 := (List.range N).map (pix l)
theorem make_col (m : Nat) (hm : m ≤ 16777216) (w : World) : (Instr.makeSlice 34 (.int .i64 0) (.int .i64 (m : Int))).run Tryz.prog w = .ok (.slice (some ⟨w.heap.size, 0, none⟩) 0 m) (w.alloc (.cells (madeCells (Value.agg #[.int .u16 0, .int .u16 0, .int .u16 0, .int .u16 0]).cells (m * 4)) 38)) := by
  obtain ⟨i0, hi, hz0, hz1, hz2⟩ := info_parts infoCol
  have := run_make_rowN (P := Tryz.prog) 34 38 i0 _ Tryz.underlying34 hi hz0 .i64 .i64 0 m (Nat.zero_le _) (by rw [hz2]; omega) (by omega) w
  rw [hz1] at this
  exact this
theorem Sl.part {k : IntKind} {w : World} {b off n cap m j : Nat} {l : List Int} (h : Sl k w (some ⟨b, off, none⟩) n cap l) (hm : m + j ≤ n) : Sl k w (some ⟨b, off + m, none⟩) j j ((l.drop m).take j) := by
  have h1 := h.drop (m := m) (by omega)
  have h2 := h1.take (m := j) (by omega)
  refine ⟨h2.len, Nat.le_refl _, ?_, (fun e => by cases e), h2.wf, h2.rd⟩
  have := h.fits
  have := h.most
  omega
theorem pix_part (l : List Int) (k : Nat) : (⟨((l.drop (4 * k)).take 4).getD 0 0, ((l.drop (4 * k)).take 4).getD 1 0, ((l.drop (4 * k)).take 4).getD 2 0, ((l.drop (4 * k)).take 4).getD 3 0⟩ : C4) = pix l k := by
  simp [pix, List.getD_eq_getElem?_getD, List.getElem?_drop]
theorem fill_col (c : C4) : Instr.fill (fun i => some (i * 4, 4)) ((Array.range (1 * 4)).map ((Value.agg #[Value.int IntKind.u16 0, Value.int IntKind.u16 0, Value.int IntKind.u16 0, Value.int IntKind.u16 0]).cells[· % (Value.agg #[Value.int IntKind.u16 0, Value.int IntKind.u16 0, Value.int IntKind.u16 0, Value.int IntKind.u16 0]).cells.size]!)) [(0, c.val)] = some #[.int .u16 c.r, .int .u16 c.g, .int .u16 c.b, .int .u16 c.a] := by kernel_rfl
/-- a new block with one colour -/
def NewCol (base : Nat) (c : C4) (v : Value) (w : World) : Prop := ∃ g, v = .slice (some ⟨g, 0, none⟩) 1 1 ∧ base ≤ g ∧ w.heap[g]? = some (.cells #[.int .u16 c.r, .int .u16 c.g, .int .u16 c.b, .int .u16 c.a] 38 (0, 0))
theorem NewCol.below {base : Nat} {c : C4} {v : Value} {w w' : World} (h : NewCol base c v w) (hb : Below w.heap.size w w') : NewCol base c v w' := by
  obtain ⟨g, h1, h2, h3⟩ := h
  exact ⟨g, h1, h2, (hb.block _ (block_lt h3)).trans h3⟩
set_option maxRecDepth 100000 in
set_option maxHeartbeats 1600000 in
theorem grid_any (W H : Int) (p : Option Addr) (n cap : Nat) (l : List Int) (w : World) (h : Sl .u16 w p n cap l) (hg : imgGood W H n) (N : Nat) (hN : n = 4 * N) :
    Calls Tryz.prog 31 #[.agg #[.int .i64 W, .int .i64 H, .slice p n cap]] w (GridPost W H (cols l N) w) := by
  have hsides := sides_mul hg.1 hg.2.1 hg.2.2.1 hg.2.2.2.1
  obtain ⟨g1, g2, g3, g4, g5, g6⟩ := hg
  have hNW : (N : Int) = W * H := by omega
  have hN6 : N ≤ 65536 := by omega
  have hN0 : 1 ≤ N := by omega
  have hg' : imgGood W H n := ⟨g1, g2, g3, g4, g5, g6⟩
  have HSD := Lib.hid (show SidesOk W H from ⟨g1, g2, g3, g4, g5⟩)
  have HS := Lib.hid h
  have HNN := Lib.hid hN
  have HNW := Lib.hid hNW
  obtain ⟨pb, po, rfl, _⟩ := h.cells (by omega)
  have CGd := Lib.hid (fun w => good_any W H (some ⟨pb, po, none⟩) n cap w)
  rw [goodB_true hg'] at CGd
  have q0 := heap_alloc_new w (.cells #[.int .i64 W, .int .i64 H, .slice (some ⟨pb, po, none⟩) n cap] 24 (0, 0))
  have B0 := Lib.hid ((Below.refl w.heap.size w).alloc (Nat.le_refl _) (.cells #[.int .i64 W, .int .i64 H, .slice (some ⟨pb, po, none⟩) n cap] 24))
  have KB := Lib.hid q0
  clear h hN hNW q0 hg' g6
  refine (callsIn_wide (n := 6)).1 (callsIn_of_wp_marks Tryz.func31 rfl trivial ?_ rfl)
  simp only [Tryz.ntmps31, List.size_toArray, List.length_cons, List.length_nil, Nat.reduceAdd, Nat.reduceSub, Array.replicate_succ, Array.replicate_zero, List.push_toArray, List.append_toArray, List.nil_append, List.cons_append]
  refine wpIn_wide.2 ?_
  go_upto_region 1 with (fail)
  obtain ⟨ib, hib⟩ : ∃ ib, w.heap.size = ib := ⟨_, rfl⟩
  rw [hib] at B0 KB ⊢
  have HIB := Lib.hid hib
  clear hib
  generalize w.alloc (.cells #[.int .i64 W, .int .i64 H, .slice (some ⟨pb, po, none⟩) n cap] 24) = w0 at *
  have c0 := (cell_of_row w0 _ 0 _ _ (0, 0) KB.out).trans (show _ = some (Value.int .i64 W) from rfl)
  have c1 := (cell_of_row w0 _ 1 _ _ (0, 0) KB.out).trans (show _ = some (Value.int .i64 H) from rfl)
  have c2 := (cell_of_row w0 _ 2 _ _ (0, 0) KB.out).trans (show _ = some (Value.slice (some ⟨pb, po, none⟩) n cap) from rfl)
  go_wp2_with fail
  refine (CGd.out w0).mono ?_
  rintro e w1 ⟨rfl, hb1⟩
  have d0 := keep_cell hb1 c0
  have d1 := keep_cell hb1 c1
  have d2 := keep_cell hb1 c2
  have HB1 := Lib.hid (B0.out.trans (hb1.mono (by have := block_lt KB.out; omega)))
  have KB1 := Lib.hid ((hb1.block _ (block_lt KB.out)).trans KB.out)
  clear c0 c1 c2 hb1 CGd
  have hWH : IntKind.i64.wrap (W * H) = (N : Int) := by rw [← HNW.out]; exact IntWalk.i64_in _ (by have := HNW.out; omega)
  have hmk := make_col N (by omega)
  go_upto_region 4 with (fail)
  obtain ⟨q2, q3⟩ := heap2 w1 (.cells (madeCells #[.int .u16 0, .int .u16 0, .int .u16 0, .int .u16 0] (N * 4)) 38) (.cells #[.slice (some ⟨w1.heap.size, 0, none⟩) 0 N] 34)
  have B2 := Lib.hid (((Below.refl w1.heap.size w1).alloc (Nat.le_refl _) (.cells (madeCells #[.int .u16 0, .int .u16 0, .int .u16 0, .int .u16 0] (N * 4)) 38)).alloc (by simp) (.cells #[.slice (some ⟨w1.heap.size, 0, none⟩) 0 N] 34))
  have hs2 : ((w1.alloc (.cells (madeCells #[.int .u16 0, .int .u16 0, .int .u16 0, .int .u16 0] (N * 4)) 38)).alloc (.cells #[.slice (some ⟨w1.heap.size, 0, none⟩) 0 N] 34)).heap.size = w1.heap.size + 1 + 1 := by simp
  have HS2 := Lib.hid hs2
  have Q3 := Lib.hid q3
  have HO2 : Hid (OwnC w.heap.size ((w1.alloc (.cells (madeCells #[.int .u16 0, .int .u16 0, .int .u16 0, .int .u16 0] (N * 4)) 38)).alloc (.cells #[.slice (some ⟨w1.heap.size, 0, none⟩) 0 N] 34)) (.slice (some ⟨w1.heap.size, 0, none⟩) 0 N) []) := Lib.hid (by
    have hlo : w.heap.size ≤ w1.heap.size := by have := HB1.out.size; have := HIB.out; omega
    exact (World.ownsRow_made w1 _ N hlo (by unfold maxLen; omega) (by simp [madeCells])).alloc _)
  clear q2 q3 hs2
  generalize (w1.alloc (.cells (madeCells #[.int .u16 0, .int .u16 0, .int .u16 0, .int .u16 0] (N * 4)) 38)).alloc (.cells #[.slice (some ⟨w1.heap.size, 0, none⟩) 0 N] 34) = w2 at *
  obtain ⟨gb, hgb⟩ : ∃ gb, w1.heap.size = gb := ⟨_, rfl⟩
  rw [hgb] at B2 HS2 Q3 HO2 ⊢
  have hlo : w.heap.size ≤ gb := by have h1 := HB1.out.size; have h2 := HIB.out; have h3 := block_lt KB1.out; omega
  have hib2 : ib < gb := by have := block_lt KB1.out; omega
  have HB2 := Lib.hid (HB1.out.trans (B2.out.mono (Nat.le_of_lt hib2)))
  have KB2 := Lib.hid ((B2.out.block _ (by rw [← hgb]; exact block_lt KB1.out)).trans KB1.out)
  have HGB := Lib.hid hgb
  have z2 := HS2.out
  have e2 := (cell_of_row w2 _ 2 _ _ (0, 0) KB2.out).trans (show _ = some (Value.slice (some ⟨pb, po, none⟩) n cap) from rfl)
  clear d0 d1 d2 hmk hgb hWH
  go_wp2_with fail
  refine (wchunk_any _ _ _ 4 (by omega) _).mono ?_
  rintro e w4 ⟨rfl, rfl⟩
  go_wp2_with fail
  refine (wpIn_wide (n := 6)).1 ?_
  obtain ⟨p0, p1⟩ := heap2 w2 (.cells #[.slice (some ⟨pb, po, none⟩) n cap] 22) (.cells #[.int .i64 4] 3)
  have B4 := (((Below.refl w2.heap.size w2).alloc (Nat.le_refl _) (.cells #[.slice (some ⟨pb, po, none⟩) n cap] 22)).alloc (by simp) (.cells #[.int .i64 4] 3))
  have SZ4 : ((w2.alloc (.cells #[.slice (some ⟨pb, po, none⟩) n cap] 22)).alloc (.cells #[.int .i64 4] 3)).heap.size = w2.heap.size + 1 + 1 := by simp
  have OR4 := (HO2.out.alloc (.cells #[.slice (some ⟨pb, po, none⟩) n cap] 22)).alloc (.cells #[.int .i64 4] 3)
  rw [z2] at p0 p1 SZ4
  generalize (w2.alloc (.cells #[.slice (some ⟨pb, po, none⟩) n cap] 22)).alloc (.cells #[.int .i64 4] 3) = w4 at *
  have hch : chunks n 4 = N := by unfold chunks; rw [HNN.out]; omega
  have HCH := Lib.hid hch
  clear hch
  have hwb : w.heap.size ≤ ib := Nat.le_of_eq HIB.out
  have B4w := Lib.hid ((HIB.out ▸ HB2.out : Below w.heap.size w w2).trans (B4.mono (by omega)))
  have X1 := Lib.hid ((B4.block _ (block_lt Q3.out)).trans Q3.out)
  have X2 := Lib.hid ((B4.block _ (block_lt KB2.out)).trans KB2.out)
  obtain ⟨fix, hfx⟩ : ∃ x : List (Nat × Array Value × TypeId), x = [(ib, #[.int .i64 W, .int .i64 H, .slice (some ⟨pb, po, none⟩) n cap], 24), (gb + 1 + 1, #[.slice (some ⟨pb, po, none⟩) n cap], 22), (gb + 1 + 1 + 1, #[.int .i64 4], 3)] := ⟨_, rfl⟩
  have HFX := Lib.hid hfx
  have hRA : BoxAt w w.heap.size fix (gb + 1) 34 38 := by
    refine ⟨by omega, by omega, fun p hp => ?_, by decide⟩
    rw [hfx] at hp
    simp only [List.mem_cons, List.not_mem_nil, or_false] at hp
    rcases hp with rfl | rfl | rfl <;> refine ⟨by dsimp only; decide, ?_⟩ <;> dsimp only <;> omega
  have HRA := Lib.hid hRA
  have hI0 : BoxI w w.heap.size fix (gb + 1) 34 38 4 ([] : List C4).length (colRow []) w4 := by
    refine ⟨fun p hp => ?_, ⟨_, X1.out, OR4⟩, B4w.out⟩
    rw [hfx] at hp
    simp only [List.mem_cons, List.not_mem_nil, or_false] at hp
    rcases hp with rfl | rfl | rfl
    · exact X2.out
    · exact p0
    · exact p1
  have HI0 := Lib.hid hI0
  have c1 := (cell_of_row _ _ 0 _ _ (0, 0) p0).trans rfl
  have c2 := (cell_of_row _ _ 0 _ _ (0, 0) p1).trans rfl
  clear hRA hI0 hfx p0 p1 X1 X2 OR4 HO2 e2
  refine wpIn_rangeFunc_ownF rfl (by omega) (gf := 97) (lb := #[.pointer (some ⟨gb + 1 + 1, 0, none⟩), .pointer (some ⟨gb + 1 + 1 + 1, 0, none⟩)]) rfl trivial (enters_of Tryz.func97 (by kernel_rfl) rfl)
    (wchunk_stops 5 (gb + 1 + 1) (gb + 1 + 1 + 1) _ n cap 4 (by omega) (by omega) HS.out.fits (by have := HNN.out; omega) w4 (by omega) (by omega) pb po (.inr rfl) c1 c2) (fun h k => h.trans k) (KeepsTwo.put (by omega) (by omega)) (Below.refl _ _) (fun _ => rfl)
    (fun pre W => BoxI w w.heap.size fix (gb + 1) 34 38 4 (pre.map fun x => pix l x.1).length (colRow (pre.map fun x => pix l x.1)) W)
    (fun _ _ _ => False)
    (BoxI.ownFrom (by omega) _ _)
    (fun _ _ _ _ _ hs _ _ => hs)
    HI0.out
    (fun x => { tmps := #[.agg #[.int .i64 W, .int .i64 H, .slice (some ⟨pb, po, none⟩) n cap], .pointer (some ⟨ib, 0, none⟩), .pointer none, .int .i64 0, .pointer (some ⟨gb + 1, 0, none⟩), chunkV pb po n 4 x.1, .agg #[.int .i64 W, .int .i64 H, .slice (some ⟨pb, po, none⟩) n cap], .bool true, .bool false, .pointer (some ⟨ib, 0, none⟩), .int .i64 W, .pointer (some ⟨ib, 1, none⟩), .int .i64 H, .int .i64 N, .slice (some ⟨gb, 0, none⟩) 0 N, .pointer (some ⟨ib, 2, none⟩), .slice (some ⟨pb, po, none⟩) n cap, .func (.func 97) #[] #[.pointer (some ⟨gb + 1 + 1, 0, none⟩), .pointer (some ⟨gb + 1 + 1 + 1, 0, none⟩)], chunkV pb po n 4 x.1, undef, undef, undef, undef, undef, undef, undef, undef, undef, undef, undef, undef, undef], defers := [] }) ?assign ?body ?done ?stop
  case assign =>
    intro l x W K hK
    clear z2 SZ4
    gi_wp2
    exact hK
  case body =>
    rintro lr pre ⟨xi, hxi⟩ W1 hI hlen
    dsimp only
    have HI := Lib.hid hI
    have hxN : xi < N := by rw [← HCH.out]; exact hxi
    have hpN : pre.length ≤ 65536 := by have := HCH.out; omega
    have hn4 := HNN.out
    have hcv : chunkV pb po n 4 xi = .slice (some ⟨pb, po + 4 * xi, none⟩) 4 4 := by
      unfold chunkV
      rw [show min 4 (n - xi * 4) = 4 by omega, Nat.mul_comm xi 4]
    obtain ⟨vo, hbo, hrow⟩ := hI.box
    have HBO := Lib.hid hbo
    have HROW := Lib.hid hrow
    have HS1 := Lib.hid (HS.out.below (hI.below))
    have kb := (cell_of_row _ _ 0 _ _ (0, 0) hbo).trans (show _ = some vo from rfl)
    have HPK := Lib.hid (HS.out.u16s.pix xi)
    rw [hcv]
    clear hcv hI hbo hrow
    gi_wp2
    refine round_region_any (by kernel_rfl) (by kernel_rfl) (by rintro ⟨_, _, h⟩; exact h) ?_
    refine wpAny_laid_tails (D := fun i => ([19, 20, 21, 22] : List Nat).getD i 0)
      (R := fun i v w' => match i with
        | 0 => v = vo
        | 1 => v = .slice (some ⟨pb, po + 4 * xi, none⟩) 4 4
        | 2 => v = (pix l xi).val
        | 3 => NewCol W1.heap.size (pix l xi) v w'
        | _ => True)
      (S := fun a' w' => (a'.tmps[4]? = some (.pointer (some ⟨gb + 1, 0, none⟩)) ∧ a'.tmps[5]? = some (.slice (some ⟨pb, po + 4 * xi, none⟩) 4 4)) ∧ Below W1.heap.size W1 w')
      4 (by decide) (by kernel_rfl) (by kernel_rfl) (by kernel_rfl) (by kernel_rfl) (by kernel_rfl) (by kernel_rfl) ?_ ?_ ?_ ?_
    · intro i v u u' h hb
      match i, h with
      | 0, h => exact h
      | 1, h => exact h
      | 2, h => exact h
      | 3, h => exact NewCol.below h hb
      | i + 4, _ => trivial
    · intro a' u hb _ hold
      exact ⟨⟨hold 4 (by decide), hold 5 (by decide)⟩, hb⟩
    · refine ⟨?_, od_move 5 _ rfl (fun a u h => h.1.2) (fun _ => rfl), ?_, ?_, trivial⟩
      · intro a' u hS hd
        clear hd
        have e := hS.1.1
        have x0 := keep_cell hS.2 kb
        go_simp
        exact ⟨_, rfl, rfl, Below.refl _ _⟩
      · intro a' u hS hd
        obtain ⟨_, e0, rfl⟩ := hd 1 (by kernel_rfl)
        have f0 : a'.tmps[20]? = some _ := e0
        clear e0
        clear hd
        go_simp
        refine (colour_any pb (po + 4 * xi) 4 4 _ u ((HS1.out.below hS.2).part (by omega)) (by omega)).mono ?_
        rintro e u' ⟨rfl, hbu⟩
        exact ⟨_, rfl, congrArg C4.val (pix_part l xi), hbu⟩
      · intro a' u hS hd
        obtain ⟨_, e0, rfl⟩ := hd 2 (by kernel_rfl)
        have f0 : a'.tmps[21]? = some _ := e0
        clear e0
        clear hd
        obtain ⟨i0, hi, hz0, hz1, hz2⟩ := info_parts infoCol
        have hsz := hS.2.size
        refine wp_slice 34 38 1 _ rfl [(0, (pix l xi).val)] (by simp [Act.eval, f0]) #[.int .u16 (pix l xi).r, .int .u16 (pix l xi).g, .int .u16 (pix l xi).b, .int .u16 (pix l xi).a] i0 _ Tryz.underlying34 hi hz0 (by rw [hz1]; decide) (by rw [hz1]; decide) (by rw [hz1]; exact fill_col _) ⟨_, rfl, ⟨_, rfl, hsz, heap_alloc_new _ _⟩, (Below.refl _ _).alloc (Nat.le_refl _) _⟩
    · intro a' u h
      obtain ⟨v19, e19, h19⟩ := h.new 0 (by decide) (by decide +kernel)
      replace h19 : v19 = vo := h19
      rw [h19] at e19
      clear h19
      obtain ⟨_, e22, bc, rfl, hbc, hcc⟩ := h.new 3 (by decide) (by decide +kernel)
      replace e19 : a'.tmps[19]? = some vo := e19
      replace e22 : a'.tmps[22]? = some (.slice (some ⟨bc, 0, none⟩) 1 1) := e22
      have e4 : a'.tmps[4]? = some (.pointer (some ⟨gb + 1, 0, none⟩)) := h.old 4 (by decide)
      have hsz : a'.tmps.size = 32 := h.size
      have hdf : a'.defers = [] := h.defers
      have hbu := h.below
      clear h
      obtain ⟨tmps, defers⟩ := a'
      simp only at hsz hdf e19 e22 e4
      subst hdf
      obtain ⟨ll⟩ := tmps
      match ll, hsz with
      | z0 :: z1 :: z2' :: z3 :: z4 :: z5 :: z6 :: z7 :: z8 :: z9 :: z10 :: z11 :: z12 :: z13 :: z14 :: z15 :: z16 :: z17 :: z18 :: z19 :: z20 :: z21 :: z22 :: z23 :: z24 :: z25 :: z26 :: z27 :: z28 :: z29 :: z30 :: z31 :: [], _ =>
        obtain rfl : z4 = .pointer (some ⟨gb + 1, 0, none⟩) := by simpa using e4
        obtain rfl : vo = z19 := by simpa using e19.symm
        obtain rfl : z22 = .slice (some ⟨bc, 0, none⟩) 1 1 := by simpa using e22
        clear e4 e19 e22
        have ho : OwnC w.heap.size u vo (pre.map fun x => pix l x.1) := ownsRow_below HROW.out hbu
        have HO := Lib.hid ho
        have hszw : w.heap.size ≤ u.heap.size := Nat.le_trans HI.out.below.size hbu.size
        have HBU := Lib.hid hbu
        clear ho hbu
        refine wpList_of_append rfl (.tmp 19) (.tmp 22) 34 34 rfl (run_append_col _ _ w.heap.size vo (pre.map fun x => pix l x.1) (pix l xi) HO.out (by rw [List.length_map]; omega) hszw bc hcc) ?_
        rintro v9 w9 ⟨ho9, hg9, hv9⟩
        obtain ⟨b9, c9, e9, _⟩ := own_form ho9 (by simp)
        rw [show (List.map (fun x => pix l x.1) pre ++ [pix l xi]).length = pre.length + 1 by simp] at e9
        subst e9
        have HIS := Lib.hid (HI.out.app HRA.out HBO.out HROW.out HBU.out hg9 ho9)
        have ko := HIS.out.1
        have kk := (cell_of_row _ _ 0 _ _ (0, 0) ko).trans (show _ = some vo from rfl)
        have kf := frozen_of_row _ _ 0 _ _ ko
        clear ho9 hg9 hv9 ko
        go_wp2_with fail
        have HB9 := HIS.out.2.1
        have hf1 : (gb + 1 + 1, (#[.slice (some ⟨pb, po, none⟩) n cap] : Array Value), 22) ∈ fix := by rw [HFX.out]; simp
        have hf2 : (gb + 1 + 1 + 1, (#[.int .i64 4] : Array Value), 3) ∈ fix := by rw [HFX.out]; simp
        refine ⟨HIS.out.2.2, ⟨(HB9.fix _ hf1).trans (HI.out.fix _ hf1).symm, (HB9.fix _ hf2).trans (HI.out.fix _ hf2).symm⟩, ?_⟩
        dsimp only
        rw [List.map_append]
        exact HB9
  case done =>
    rintro D ys W1 hD ⟨hS1, hS2⟩ hI hK
    have hyl : ys.length = N := by rw [hS1, HCH.out]
    have hDw : w.heap.size ≤ D := by omega
    have hmap : (ys.map fun x => pix l x.1) = cols l N := by
      unfold cols
      rw [← hyl, ← show ys.map (·.1) = List.range ys.length from hS2, List.map_map]
      rfl
    rw [hmap] at hI
    obtain ⟨vo, hbo, hrow⟩ := hI.box
    have hcl : (cols l N).length = N := by simp [cols]
    obtain ⟨b9, c9, e9, _⟩ := own_form hrow (by omega)
    rw [hcl] at e9
    subst e9
    have HBO := Lib.hid hbo
    have HROW := Lib.hid hrow
    have HK := Lib.hid hK
    have HB := Lib.hid hI.below
    have hf0 : (ib, (#[.int .i64 W, .int .i64 H, .slice (some ⟨pb, po, none⟩) n cap] : Array Value), 24) ∈ fix := by rw [HFX.out]; simp
    have hi := hI.fix _ hf0
    have k0 := (cell_of_row _ _ 0 _ _ (0, 0) hi).trans (show _ = some (Value.int .i64 W) from rfl)
    have k1 := (cell_of_row _ _ 1 _ _ (0, 0) hi).trans (show _ = some (Value.int .i64 H) from rfl)
    have k2 := (cell_of_row _ _ 0 _ _ (0, 0) hbo).trans (show _ = some (Value.slice (some ⟨b9, 0, none⟩) N c9) from rfl)
    have CG := Lib.hid (gridOf_any W H HSD.out b9 0 c9 (cols l N) W1 (by obtain ⟨a, c, e, _, _, hr, _⟩ := OwnC.rd (t := cols l N) hrow; injection e with e1 e2 e3; subst e1; exact hr) (by rw [hcl]; exact HNW.out))
    rw [hcl] at CG
    clear hI hbo hrow hK hS1 hS2 hyl hmap hi z2 SZ4 c1 c2
    go_wp2_with fail
    refine CG.out.mono ?_
    rintro e w5 ⟨g5, cb5, cc5, rfl, hga, hb5⟩
    have HGA := Lib.hid hga
    have HB5 := Lib.hid hb5
    clear hga hb5 k0 k1 k2
    go_wp2_with fail
    have hK5 := (HB5.out.block _ (block_lt HK.out)).trans HK.out
    refine ⟨by simp, .inl ⟨_, _, rfl, run_takeDeferred hK5, ?_⟩⟩
    have hg5 := grownBy_putObj' w5 D (.deferred none)
    have hr5 : ∀ r, some D = some r → ∃ o : Obj, w5.heap[r]? = some o ∧ o.isCells = false := fun r e => by cases e; exact ⟨_, hK5, rfl⟩
    have hlo5 := HB.out.size
    exact ⟨_, results_tmp2 rfl _ _ _, g5, cb5, cc5, rfl, ⟨Nat.le_trans hlo5 HGA.out.lies, own_heap hg5 hr5 HGA.out.head, World.ownsRow.mono (own_row hg5 hr5 HGA.out.cells) hlo5⟩, take_deferred_below hDw (Nat.le_refl _) (HB.out.trans (HB5.out.mono hlo5)) _⟩
  case stop =>
    rintro D c pre W1 _ _ h _
    exact h.elim
end Go.Proofs.YtioeifbobhdccaaGreatDoor
