/- AllNearest, walked. -/
import Derived.Test.YtioeifbobhdccaaGreatDoorM42
import Derived.Test.YtioeifbobhdccaaGreatDoorM50
import Derived.Lib.QuietBelow
namespace Go.Proofs.YtioeifbobhdccaaGreatDoor
open Go.RowKit Go.Sort Go.Shelf Go.Maps
attribute [local go_sem] Oper.semAt_some
/-- an image's block behind a call -/
theorem img_cells {w : World} {b : Nat} {u v x : Value} (h : w.heap[b]? = some (.cells #[u, v, x] 24 (0, 0))) : w.cell? ⟨b, 0, none⟩ = some u ∧ w.cell? ⟨b, 1, none⟩ = some v ∧ w.cell? ⟨b, 2, none⟩ = some x :=
  ⟨(cell_of_row w b 0 _ _ (0, 0) h).trans rfl, (cell_of_row w b 1 _ _ (0, 0) h).trans rfl, (cell_of_row w b 2 _ _ (0, 0) h).trans rfl⟩
theorem below_block {w w' : World} {b : Nat} {o : Obj} (hb : Below w.heap.size w w') (h : w.heap[b]? = some o) : w'.heap[b]? = some o := (hb.block _ (block_lt h)).trans h
theorem sl_of_row {w : World} {b : Nat} {l : List Int} {t : TypeId} {fr : Nat × Nat} {n : Nat} (h : w.heap[b]? = some (.cells (l.map (Value.int .u16)).toArray t fr)) (hn : l.length = n) (hm : n ≤ maxLen) (hw : u16s l) : Sl .u16 w (some ⟨b, 0, none⟩) n n l := by
  refine ⟨hn, Nat.le_refl _, hm, (fun h => by cases h), fun x hx => ?_, .inr ⟨_, 0, rfl, fun i hi => ?_⟩⟩
  · have := hw x hx
    simp [Lit.wf, IntKind.min, IntKind.max, IntKind.bits, IntKind.signed]
    omega
  · have hc := cell_of_row w b i _ t fr h
    rw [Nat.zero_add, hc]
    simp [List.getD_eq_getElem?_getD, List.getElem?_eq_getElem hi]
set_option maxRecDepth 100000 in
set_option maxHeartbeats 1600000 in
theorem nearest_bad (W H : Int) (p : Option Addr) (n cap : Nat) (l : List Int) (w : World) (h : Sl .u16 w p n cap l) (hr : n * 2 ≤ 140737488355328) (ht : lit.Tab w) (hg : ¬ imgGood W H n) :
    Calls Tryz.prog 3 #[.agg #[.int .i64 W, .int .i64 H, .slice p n cap]] w fun e w' => e = .returned (.bool true) ∧ Below w.heap.size w w' := by
  have HS := Lib.hid h
  have q0 := heap_alloc_new w (.cells #[.int .i64 W, .int .i64 H, .slice p n cap] 24 (0, 0))
  have b0 : Below w.heap.size w (w.alloc (.cells #[.int .i64 W, .int .i64 H, .slice p n cap] 24)) := (Below.refl w.heap.size w).alloc (Nat.le_refl _) _
  have CL := Lib.hid (lit_any _ (ht.below b0))
  have B0 := Lib.hid b0
  have KB := Lib.hid q0
  have HG := Lib.hid hg
  have CGd := Lib.hid (fun w => refGood_any W H p n cap w)
  rw [goodB_false hg] at CGd
  clear h q0 b0 ht hg
  go_enter Tryz.func3, Tryz.ntmps3
  go_upto_region 1 with (fail)
  obtain ⟨ib, hib⟩ : ∃ ib, w.heap.size = ib := ⟨_, rfl⟩
  have HIB := Lib.hid hib
  rw [hib] at KB B0 ⊢
  clear hib
  generalize w.alloc (.cells #[.int .i64 W, .int .i64 H, .slice p n cap] 24) = w0 at *
  go_wp2_with fail
  refine CL.out.mono ?_
  rintro e w1 ⟨rfl, hb1⟩
  have hKB1 := below_block hb1 KB.out
  have hB1 : Below w.heap.size w w1 := by have := B0.out; rw [← HIB.out] at this; exact this.trans (hb1.mono this.size)
  have KB1 := Lib.hid hKB1
  have HB1 := Lib.hid hB1
  obtain ⟨c0, c1, c2⟩ := img_cells hKB1
  have CO := Lib.hid (ownImg_any W H p n cap l w1 (HS.out.below hB1) hr)
  clear hb1 CL B0 KB hKB1 hB1
  go_wp2_with fail
  refine CO.out.mono ?_
  rintro e w2 ⟨g, gc, rfl, _, hrow, hb2⟩
  have hl : l.length = n := HS.out.len
  rw [hl]
  have CE := Lib.hid (encode_bad W H (some ⟨g, 0, none⟩) n gc w2 HG.out)
  have HB2 := Lib.hid (HB1.out.trans (hb2.mono HB1.out.size))
  have KB2 := Lib.hid (below_block hb2 KB1.out)
  clear hb2 CO hrow HB1 KB1 c0 c1 c2 hl
  go_wp2_with fail
  refine CE.out.mono ?_
  rintro e w3 ⟨rfl, hb3⟩
  have HB3 := Lib.hid (HB2.out.trans (hb3.mono HB2.out.size))
  obtain ⟨c0, c1, c2⟩ := img_cells (below_block hb3 KB2.out)
  clear hb3 CE HB2 KB2
  go_wp2_with fail
  refine (CGd.out w3).mono ?_
  rintro e w4 ⟨rfl, hb4⟩
  have HB4 := Lib.hid (HB3.out.trans (hb4.mono HB3.out.size))
  clear hb4 c0 c1 c2 HB3
  go_wp2_with fail
  go_ret
  exact ⟨rfl, HB4.out⟩
theorem wf_u16s {l : List Int} (h : u16s l) : ∀ x ∈ l, (Lit.int .u16 x).wf = true := fun x hx => by
  have := h x hx
  simp [Lit.wf, IntKind.min, IntKind.max, IntKind.bits, IntKind.signed]
  omega
theorem solids_take {cs : List C4} {i : Nat} {c : C4} (hc : cs[i]? = some c) : solids (cs.take (i + 1)) = if 0 < c.a then solids (cs.take i) ++ [c] else solids (cs.take i) := by
  rw [List.take_add_one, hc]
  exact solids_snoc _ _
theorem solids_le (cs : List C4) (i : Nat) : (solids (cs.take i)).length ≤ i := by
  unfold solids
  refine Nat.le_trans (List.length_filter_le _ _) ?_
  rw [List.length_take]
  omega
theorem idxs_lt (u : List C4) (l : List Int) (N : Nat) (h : 0 < u.length) : ∀ i, i < N → ((idxs u (-1) (cols l N)).getD i 0).toNat < u.length := by
  intro i hi
  rw [idxs_get _ _ hi]
  unfold idxOf
  rw [if_neg (by omega)]
  have := near_range u (pix l i).eight u.length
  omega
theorem idxs_wf (u : List C4) (l : List Int) (N : Nat) (h : 0 < u.length) (h2 : u.length ≤ 256) : ∀ x ∈ idxs u (-1) (cols l N), (Lit.int .u8 x).wf = true := by
  refine wf_of_bytes fun x hx => ?_
  obtain ⟨c, _, rfl⟩ := List.mem_map.1 hx
  unfold idxOf
  rw [if_neg (by omega)]
  have := near_range u c.eight u.length
  omega
theorem backPix_u16s (u : List C4) (l : List Int) (N : Nat) (h : ∀ c ∈ u, c.ok) : u16s (imgOf u (idxs u (-1) (cols l N))) := by
  intro x hx
  obtain ⟨k, _, hx⟩ := List.mem_flatMap.1 hx
  have hok : (u.getD k.toNat C4.zero).ok := by
    rw [List.getD_eq_getElem?_getD]
    rcases Nat.lt_or_ge k.toNat u.length with hj | hj
    · rw [List.getElem?_eq_getElem hj]
      exact h _ (List.getElem_mem hj)
    · rw [List.getElem?_eq_none hj]
      exact zero_ok
  generalize u.getD k.toNat C4.zero = c at *
  unfold C4.ok at hok
  unfold C4.list at hx
  simp at hx
  rcases hx with rfl | rfl | rfl | rfl <;> omega
/-- what stays through the first loop -/
structure LawKeep (w : World) (ib xb pb : Nat) (I X D : Array Value) (wr : World) : Prop where
  i : wr.heap[ib]? = some (.cells I 24 (0, 0))
  x : wr.heap[xb]? = some (.cells X 24 (0, 0))
  d : wr.heap[pb]? = some (.cells D 36 (0, 0))
  below : Below w.heap.size w wr
theorem LawKeep.at_below {w wr w' : World} {ib xb pb : Nat} {I X D : Array Value} (h : LawKeep w ib xb pb I X D wr) (hb : Below wr.heap.size wr w') : LawKeep w ib xb pb I X D w' :=
  ⟨below_block hb h.i, below_block hb h.x, below_block hb h.d, h.below.trans (hb.mono h.below.size)⟩
theorem LawKeep.grown {w wr w' : World} {ib xb pb : Nat} {I X D : Array Value} {row : Option Nat} (h : LawKeep w ib xb pb I X D wr) (hg : wr.grownBy w' row) (base : Nat) (hb : w.heap.size ≤ base) (hi : ib < base) (hx : xb < base) (hp : pb < base) (hr : ∀ r, row = some r → base ≤ r) : LawKeep w ib xb pb I X D w' := by
  have nr : ∀ j, j < base → some j ≠ row := by
    intro j hj e
    have := hr j e.symm
    omega
  exact ⟨grown_block hg h.i (nr _ hi), grown_block hg h.x (nr _ hx), grown_block hg h.d (nr _ hp), h.below.grown hg h.below.size (fun j e => Nat.le_trans hb (hr j e))⟩
/-- between two rounds of the first loop -/
structure LawRel (w : World) (ib xb pb : Nat) (I X D : Array Value) (lo : Nat) (vc : Value) (cs : List C4) (base : Nat) (i : Nat) (s7 : Value) (wr : World) : Prop where
  keep : LawKeep w ib xb pb I X D wr
  src : OwnC lo wr vc cs
  used : OwnC base wr s7 (solids (cs.take i))
  size : base ≤ wr.heap.size
theorem LawRel.at_below {w wr w' : World} {ib xb pb lo base i : Nat} {I X D : Array Value} {vc s7 : Value} {cs : List C4} (h : LawRel w ib xb pb I X D lo vc cs base i s7 wr) (hb : Below wr.heap.size wr w') : LawRel w ib xb pb I X D lo vc cs base i s7 w' :=
  ⟨h.keep.at_below hb, h.src.below hb, h.used.below hb, Nat.le_trans h.size hb.size⟩
set_option maxRecDepth 100000 in
set_option maxHeartbeats 1600000 in
theorem nearest_good (W H : Nat) (p : Option Addr) (n cap : Nat) (l : List Int) (w : World) (h : Sl .u16 w p n cap l) (hr : n * 2 ≤ 140737488355328) (ht : lit.Tab w) (hg : imgGood W H n) (N : Nat) (hN : n = 4 * N) :
    Calls Tryz.prog 3 #[.agg #[.int .i64 (W : Nat), .int .i64 (H : Nat), .slice p n cap]] w fun e w' => e = .returned (.bool true) ∧ Below w.heap.size w w' := by
  have hsides := sides_mul hg.1 hg.2.1 hg.2.2.1 hg.2.2.2.1
  have hNW : (N : Int) = (W : Int) * (H : Int) := by have := hg.2.2.2.2.2; omega
  have hNW' : N = W * H := by have : (N : Int) = ((W * H : Nat) : Int) := by rw [hNW]; simp
                              omega
  have hN6 : N ≤ 65536 := by have := hg.2.2.2.2.1; omega
  have hN1 : 1 ≤ N := by omega
  have hW6 : 1 ≤ W ∧ W ≤ 4096 := by have h1 := hg.1; have h2 := hg.2.2.1; omega
  have hH6 : 1 ≤ H ∧ H ≤ 4096 := by have h1 := hg.2.1; have h2 := hg.2.2.2.1; omega
  have HSI : Hid (SidesOk (W : Int) (H : Int)) := Lib.hid ⟨hg.1, hg.2.1, hg.2.2.1, hg.2.2.2.1, hg.2.2.2.2.1⟩
  obtain ⟨qb0, qo0, rfl, _⟩ := h.cells (by omega)
  have HS := Lib.hid h
  have HG := Lib.hid hg
  have HNN := Lib.hid hN
  have HNW := Lib.hid hNW
  have HNW' := Lib.hid hNW'
  have HW6 := Lib.hid hW6
  have HH6 := Lib.hid hH6
  have HWH : Hid (IntKind.i64.wrap ((W : Int) * (H : Int)) = (N : Int)) := Lib.hid (by rw [← hNW]; exact IntWalk.i64_in _ (by omega))
  have q0 := heap_alloc_new w (.cells #[.int .i64 (W : Nat), .int .i64 (H : Nat), .slice (some ⟨qb0, qo0, none⟩) n cap] 24 (0, 0))
  have b0 : Below w.heap.size w (w.alloc (.cells #[.int .i64 (W : Nat), .int .i64 (H : Nat), .slice (some ⟨qb0, qo0, none⟩) n cap] 24)) := (Below.refl w.heap.size w).alloc (Nat.le_refl _) _
  have CL := Lib.hid (lit_any _ (ht.below b0))
  have B0 := Lib.hid b0
  have KB := Lib.hid q0
  have CGd := Lib.hid (fun w => refGood_any (W : Int) (H : Int) (some ⟨qb0, qo0, none⟩) n cap w)
  rw [goodB_true hg] at CGd
  clear h q0 b0 ht hg hsides hN hNW hNW' hW6 hH6
  go_enter Tryz.func3, Tryz.ntmps3
  go_upto_region 1 with (fail)
  obtain ⟨ib, hib⟩ : ∃ ib, w.heap.size = ib := ⟨_, rfl⟩
  have HIB := Lib.hid hib
  rw [hib] at KB B0 ⊢
  clear hib
  generalize w.alloc (.cells #[.int .i64 (W : Nat), .int .i64 (H : Nat), .slice (some ⟨qb0, qo0, none⟩) n cap] 24) = w0 at *
  go_wp2_with fail
  refine CL.out.mono ?_
  rintro e w1 ⟨rfl, hb1⟩
  have hKB1 := below_block hb1 KB.out
  have hB1 : Below w.heap.size w w1 := by have := B0.out; rw [← HIB.out] at this; exact this.trans (hb1.mono this.size)
  have KB1 := Lib.hid hKB1
  have HB1 := Lib.hid hB1
  obtain ⟨c0, c1, c2⟩ := img_cells hKB1
  have CO := Lib.hid (ownImg_any W H (some ⟨qb0, qo0, none⟩) n cap l w1 (HS.out.below hB1) hr)
  clear hb1 CL B0 KB hKB1 hB1
  go_wp2_with fail
  refine CO.out.mono ?_
  rintro e w2 ⟨g, gc, rfl, _, hrow, hb2⟩
  have hl : l.length = n := HS.out.len
  rw [hl] at hrow ⊢
  have HU := Lib.hid HS.out.u16s
  have CE := Lib.hid (encode_any W H (some ⟨g, 0, none⟩) n gc l w2 (Fresh.sl hrow HS.out.wf) HG.out N HNN.out)
  have HB2 := Lib.hid (HB1.out.trans (hb2.mono HB1.out.size))
  have KB2 := Lib.hid (below_block hb2 KB1.out)
  clear hb2 CO hrow HB1 KB1 c0 c1 c2 hl
  go_wp2_with fail
  refine CE.out.mono ?_
  rintro e w3 ⟨P0, sz, T, v, h8, hP, hne, hs, hT, hTn, rfl, hb3, hown⟩
  obtain ⟨hfl, hfl2⟩ := gifFile_length W H sz (goneB l N) P0 (bt.bytes false (lz.bitsOfAll false T)) hs.2.1
  obtain ⟨fb, fc, rfl, _⟩ := own_form hown hfl
  obtain ⟨fl, hfle⟩ : ∃ m, (gifFile W H sz (goneB l N) P0 (bt.bytes false (lz.bitsOfAll false T))).length = m := ⟨_, rfl⟩
  rw [hfle] at hown ⊢
  have HOF := Lib.hid hown
  have H8 := Lib.hid h8
  have HP := Lib.hid hP
  have HNE := Lib.hid hne
  have HSZ := Lib.hid hs
  have HTT := Lib.hid hT
  have HTN := Lib.hid hTn
  have HB3 := Lib.hid (HB2.out.trans (hb3.mono HB2.out.size))
  have KB3 := Lib.hid (below_block hb3 KB2.out)
  obtain ⟨c0, c1, c2⟩ := img_cells KB3.out
  clear hb3 CE HB2 KB2 h8 hP hne hs hT hTn hown hfl hfl2 hfle
  go_wp2_with fail
  refine (CGd.out w3).mono ?_
  rintro e w4 ⟨rfl, hb4⟩
  have HB4 := Lib.hid (HB3.out.trans (hb4.mono HB3.out.size))
  have KB4 := Lib.hid (below_block hb4 KB3.out)
  have hown4 := ownsRow_below HOF.out hb4
  clear hb4 c0 c1 c2 HB3 KB3 CGd HOF
  have CD := Lib.hid (gifFile_decode W H N sz l P0 T fb fl fc w4 HW6.out HH6.out HNW'.out hN6 HP.out HNE.out HSZ.out HTT.out HTN.out (Fresh.sl hown4 (wf_of_bytes (gifFile_bytes W H sz (goneB l N) _ H8.out HP.out HW6.out.2 HH6.out.2 HSZ.out.2.1))))
  obtain ⟨c0, c1, c2⟩ := img_cells KB4.out
  have hWH := HWH.out
  clear hown4
  go_wp2_with fail
  refine CD.out.mono ?_
  rintro e w5 ⟨pb, rfl, hpb, _, hb5⟩
  have HB5 := Lib.hid (HB4.out.trans (hb5.mono HB4.out.size))
  have KB5 := Lib.hid (below_block hb5 KB4.out)
  obtain ⟨D, hD⟩ : ∃ D, encPix P0 l N sz = D := ⟨_, rfl⟩
  have HD := Lib.hid hD
  have hpb' : w5.heap[pb]? = some (.cells (D.map (Value.int .u16)).toArray 36 (0, 0)) := by rw [← hD]; exact hpb
  have HPB5 := Lib.hid hpb'
  have HDL : Hid (D.length = n) := Lib.hid (by rw [← hD, encPix_length, HNN.out])
  have HDU : Hid (u16s D) := Lib.hid (by rw [← hD]; exact encPix_u16s H8.out l N sz HNE.out HSZ.out.2.2)
  rw [← HNN.out]
  clear hb5 hpb hpb' hD CD HB4 KB4 c0 c1 c2 hWH
  go_upto_region 7 with (fail)
  obtain ⟨w6, hw6⟩ : ∃ x, w5.alloc (.cells #[.int .i64 (W : Nat), .int .i64 (H : Nat), .slice (some ⟨pb, 0, none⟩) n n] 24) = x := ⟨_, rfl⟩
  obtain ⟨xb, hxb⟩ : ∃ x, w5.heap.size = x := ⟨_, rfl⟩
  have hn6 : w6.heap[xb]? = some (.cells #[.int .i64 (W : Nat), .int .i64 (H : Nat), .slice (some ⟨pb, 0, none⟩) n n] 24 (0, 0)) := by rw [← hw6, ← hxb]; exact heap_alloc_new _ _
  have hb6 : Below w5.heap.size w5 w6 := by rw [← hw6]; exact (Below.refl _ _).alloc (Nat.le_refl _) _
  have HK6 : Hid (LawKeep w ib xb pb #[.int .i64 (W : Nat), .int .i64 (H : Nat), .slice (some ⟨qb0, qo0, none⟩) n cap] #[.int .i64 (W : Nat), .int .i64 (H : Nat), .slice (some ⟨pb, 0, none⟩) n n] (D.map (Value.int .u16)).toArray w6) :=
    Lib.hid ⟨below_block hb6 KB5.out, hn6, below_block hb6 HPB5.out, HB5.out.trans (hb6.mono HB5.out.size)⟩
  rw [hw6, hxb]
  clear hb6 hn6 hw6 hxb HB5 KB5 HPB5
  obtain ⟨c0, c1, c2⟩ := img_cells HK6.out.i
  obtain ⟨x0, x1, x2⟩ := img_cells HK6.out.x
  have CO := Lib.hid (ownImg_any W H (some ⟨pb, 0, none⟩) n n D w6 (sl_of_row HK6.out.d HDL.out (by have := HNN.out; unfold maxLen; omega) HDU.out) hr)
  go_wp2_with fail
  refine CO.out.mono ?_
  rintro e w7 ⟨g7, gc7, rfl, _, hrow7, hb7⟩
  rw [HDL.out] at hrow7 ⊢
  have HK7 := Lib.hid (HK6.out.at_below hb7)
  have CDi := Lib.hid (distinct_any W H (some ⟨g7, 0, none⟩) n gc7 D w7 (Fresh.sl hrow7 (wf_u16s HDU.out)) HG.out N HNN.out)
  clear c0 c1 c2 x0 x1 x2 hb7 hrow7 CO HK6
  go_wp2_with fail
  refine CDi.out.mono ?_
  rintro e w8 ⟨vc, cs, rfl, hoc, hnd, hme, hb8⟩
  have HK8 := Lib.hid (HK7.out.at_below hb8)
  have HDI : Hid (DistOf P0 l N sz cs) := Lib.hid ⟨hnd, by rw [HD.out]; exact hme⟩
  obtain ⟨ca, cc, rfl, hcc1, hcc2, _, _⟩ := hoc.rd
  obtain ⟨m, hm⟩ : ∃ m, cs.length = m := ⟨_, rfl⟩
  have HM := Lib.hid hm
  have hmN : m ≤ 65536 := by
    have := nodup_le cs (cols D N) hnd (fun x hx => cols_mem.2 ((hme x).1 hx))
    simp [cols] at this
    omega
  rw [hm] at hcc1 hoc ⊢
  have HOC := Lib.hid hoc
  clear hoc hnd hme hb8 CDi HK7 hm
  go_wp2_with fail
  go_loopg [7, 76] m (fun gk s7 s76 wr => ∃ i, i ≤ m ∧ gk = m - i ∧ s76 = .int .i64 (i : Nat) ∧ LawRel w ib xb pb #[.int .i64 (W : Nat), .int .i64 (H : Nat), .slice (some ⟨qb0, qo0, none⟩) n cap] #[.int .i64 (W : Nat), .int .i64 (H : Nat), .slice (some ⟨pb, 0, none⟩) n n] (D.map (Value.int .u16)).toArray w7.heap.size (.slice ca m cc) cs w8.heap.size i s7 wr)
  case atStart => exact ⟨0, Nat.zero_le _, rfl, by go_num, HK8.out, HOC.out, World.ownsRow_nil _ _ _ _, Nat.le_refl _⟩
  case round =>
    obtain ⟨i, hi, hgk, rfl, hrel⟩ := hrel
    have Hg := Lib.hid hgk
    have HR := Lib.hid hrel
    clear hgk hrel
    by_cases hlt : i < m
    · skip
      --FAST{
      obtain ⟨c, hc⟩ : ∃ c, cs[i]? = some c := ⟨_, List.getElem?_eq_getElem (by rw [HM.out]; exact hlt)⟩
      have HCI := Lib.hid hc
      obtain ⟨a', c', ee, _, _, hrd, _⟩ := HR.out.src.rd
      injection ee with e1 e2 e3
      subst e1
      subst e3
      clear e2
      rcases hrd with h0 | ⟨cb, co, rfl, hcell⟩
      · rw [h0] at hc; simp at hc
      obtain ⟨k0, k1, k2, k3⟩ := hcell i (by rw [HM.out]; exact hlt)
      have hgd : cs.getD i C4.zero = c := by rw [List.getD_eq_getElem?_getD, hc]; rfl
      rw [hgd] at k0 k1 k2 k3
      have hi1 : (i : Int) < (m : Int) := by omega
      clear hcell hgd hc
      go_upto_region 13 with (fail)
      have hnw := heap_alloc_new wr (.cells #[.int .u16 c.r, .int .u16 c.g, .int .u16 c.b, .int .u16 c.a] 38)
      have hB1 : Below wr.heap.size wr (wr.alloc (.cells #[.int .u16 c.r, .int .u16 c.g, .int .u16 c.b, .int .u16 c.a] 38)) := (Below.refl _ _).alloc (Nat.le_refl _) _
      obtain ⟨qb, hqb⟩ : ∃ b, wr.heap.size = b := ⟨_, rfl⟩
      have HR4 := Lib.hid (HR.out.at_below hB1)
      rw [hqb] at hnw ⊢
      generalize wr.alloc (.cells #[.int .u16 c.r, .int .u16 c.g, .int .u16 c.b, .int .u16 c.a] 38) = wa at *
      have HNW := Lib.hid hnw
      have n0 := (cell_of_row wa _ 0 _ _ (0, 0) HNW.out).trans (show _ = some (Value.int .u16 c.r) from rfl)
      have n1 := (cell_of_row wa _ 1 _ _ (0, 0) HNW.out).trans (show _ = some (Value.int .u16 c.g) from rfl)
      have n2 := (cell_of_row wa _ 2 _ _ (0, 0) HNW.out).trans (show _ = some (Value.int .u16 c.b) from rfl)
      have n3 := (cell_of_row wa _ 3 _ _ (0, 0) HNW.out).trans (show _ = some (Value.int .u16 c.a) from rfl)
      clear k0 k1 k2 k3 hnw hB1 hqb
      by_cases hcl : 0 < c.a
      · have HCL := Lib.hid hcl
        have hB9 : Below wa.heap.size wa (wa.alloc (.cells #[.int .u16 c.r, .int .u16 c.g, .int .u16 c.b, .int .u16 c.a] 38)) := (Below.refl _ _).alloc (Nat.le_refl _) _
        have HGN := Lib.hid (heap_alloc_new wa (.cells #[.int .u16 c.r, .int .u16 c.g, .int .u16 c.b, .int .u16 c.a] 38))
        have HR9 := Lib.hid (HR4.out.at_below hB9)
        have hal : (solids (cs.take i)).length ≤ 1099511627776 := by have := solids_le cs i; omega
        clear hB9
        go_wp2_with (at_builtin; go_must (refine wpList_of_append rfl (.tmp 83) (.tmp 85) 34 34 rfl (run_append_col _ _ w8.heap.size _ (solids (cs.take i)) c HR9.out.used hal HR9.out.size wa.heap.size HGN.out) ?_; rintro v9 w9 ⟨ho9, hg9, hv9⟩; have HOA := Lib.hid ho9; have HGA := Lib.hid hg9; clear ho9 hg9 hv9))
        go_roundg (m - (i + 1))
        case measure => have := Hg.out; omega
        case rel =>
          have hlt9 := World.ownsRow.lt HR9.out.used
          have hlts := World.ownsRow.lt HOC.out
          refine ⟨i + 1, by omega, rfl, by go_num, ?_, ?_, ?_, Nat.le_trans HR9.out.size HGA.out.size⟩
          · exact HR9.out.keep.grown HGA.out w8.heap.size HK8.out.below.size (block_lt HK8.out.i) (block_lt HK8.out.x) (block_lt HK8.out.d) (fun r e => (hlt9 r e).1)
          · refine World.ownsRow.kept HR9.out.src HGA.out ?_
            cases hv : (Value.slice (some ⟨cb, co, none⟩) m cc).ownBlock with
            | none => exact .inl rfl
            | some k =>
              refine .inr fun e => ?_
              have h1 := (hlts k hv).2
              have h2 := (hlt9 k e.symm).1
              omega
          · rw [solids_take HCI.out, if_pos HCL.out]
            exact HOA.out
      · have HCL := Lib.hid hcl
        go_wp2_with fail
        go_roundg (m - (i + 1))
        case measure => have := Hg.out; omega
        case rel =>
          refine ⟨i + 1, by omega, rfl, by go_num, HR4.out.keep, HR4.out.src, ?_, HR4.out.size⟩
          rw [solids_take HCI.out, if_neg (by have := HCL.out; omega)]
          exact HR4.out.used
      --FAST}
    · obtain rfl : i = m := by omega
      obtain ⟨u, hu⟩ : ∃ u, solids cs = u := ⟨_, rfl⟩
      have HUE := Lib.hid hu
      have hou : OwnC w8.heap.size wr u7 u := by
        have := HR.out.used
        rw [List.take_of_length_le (Nat.le_of_eq HM.out), hu] at this
        exact this
      obtain ⟨hu256, hu8⟩ := used_facts H8.out HNE.out HSZ.out.2.2 HP.out.2 HDI.out
      rw [hu] at hu256 hu8
      obtain ⟨L, hL⟩ : ∃ L, u.length = L := ⟨_, rfl⟩
      have HL := Lib.hid hL
      have HKR := Lib.hid HR.out.keep
      have HKS := Lib.hid HR.out.size
      clear hu Hg hlt hi HR
      by_cases hu0 : L = 0
      · obtain ⟨ua, uc, rfl, _, _, _, _⟩ := hou.rd
        rw [hL, hu0]
        clear hL HL hu256 hu8 hou
        go_wp2_with fail
        go_ret
        exact ⟨rfl, HKR.out.below⟩
      · obtain ⟨ug, uc, rfl, _⟩ := own_form hou (by omega)
        obtain ⟨_, _, ee, _, _, hrdu, _⟩ := hou.rd
        injection ee with e1 _ e3
        subst e1 e3
        have HRU := Lib.hid hrdu
        have HU8 := Lib.hid hu8
        rw [hL] at hu256 ⊢
        have hL0 : ((L : Int) == 0) = false := by simp; omega
        obtain ⟨c0, c1, c2⟩ := img_cells HKR.out.i
        have CO := Lib.hid (ownImg_any W H (some ⟨qb0, qo0, none⟩) n cap l wr (HS.out.below HKR.out.below) hr)
        clear hrdu hu8 hL hou
        go_wp2_with fail
        refine CO.out.mono ?_
        rintro e w9 ⟨g9, gc9, rfl, _, hrow9, hb9⟩
        rw [HS.out.len] at hrow9 ⊢
        have HK9 := Lib.hid (HKR.out.at_below hb9)
        have CA := Lib.hid (apply_any W H (some ⟨g9, 0, none⟩) n gc9 l w9 (Fresh.sl hrow9 HS.out.wf) HG.out N HNN.out ug 0 uc u (RdC.below HRU.out hb9) (by have := HL.out; omega) (by rw [HL.out]; exact hu256) HU8.out.ok)
        rw [HL.out] at CA
        clear c0 c1 c2 hb9 hrow9 CO HKR HRU
        go_wp2_with fail
        refine CA.out.mono ?_
        rintro e w10 ⟨z, vp, vi, hz, rfl, hop, hoi, hb10⟩
        obtain rfl := none_solid HU8.out hz
        have hcl : (cols l N).length = N := by simp [cols]
        rw [hcl] at hoi
        obtain ⟨pg, pc, rfl, _⟩ := own_form hop (by have := HL.out; omega)
        obtain ⟨ig, ic, rfl, _⟩ := own_form hoi hN1
        rw [HL.out] at hop ⊢
        have HOP := Lib.hid hop
        have HOI := Lib.hid hoi
        have HK10 := Lib.hid (HK9.out.at_below hb10)
        clear hb10 hop hoi hz hcl CA HK9
        go_upto_region 19 with (fail)
        obtain ⟨w11, hw11⟩ : ∃ x, w10.alloc (.cells #[.int .i64 (W : Nat), .int .i64 (H : Nat), .slice (some ⟨pg, 0, none⟩) L pc, .slice (some ⟨ig, 0, none⟩) N ic] 40) = x := ⟨_, rfl⟩
        obtain ⟨ab, hab⟩ : ∃ x, w10.heap.size = x := ⟨_, rfl⟩
        have hn11 : w11.heap[ab]? = some (.cells #[.int .i64 (W : Nat), .int .i64 (H : Nat), .slice (some ⟨pg, 0, none⟩) L pc, .slice (some ⟨ig, 0, none⟩) N ic] 40 (0, 0)) := by rw [← hw11, ← hab]; exact heap_alloc_new _ _
        have hb11 : Below w10.heap.size w10 w11 := by rw [← hw11]; exact (Below.refl _ _).alloc (Nat.le_refl _) _
        have HK11 := Lib.hid (HK10.out.at_below hb11)
        have hop11 := HOP.out.below hb11
        have hoi11 := ownsRow_below HOI.out hb11
        rw [hw11, hab]
        have a0 := (cell_of_row w11 ab 0 _ _ (0, 0) hn11).trans (show _ = some (Value.int .i64 (W : Nat)) from rfl)
        have a1 := (cell_of_row w11 ab 1 _ _ (0, 0) hn11).trans (show _ = some (Value.int .i64 (H : Nat)) from rfl)
        have a2 := (cell_of_row w11 ab 2 _ _ (0, 0) hn11).trans (show _ = some (Value.slice (some ⟨pg, 0, none⟩) L pc) from rfl)
        have a3 := (cell_of_row w11 ab 3 _ _ (0, 0) hn11).trans (show _ = some (Value.slice (some ⟨ig, 0, none⟩) N ic) from rfl)
        obtain ⟨c0, c1, c2⟩ := img_cells HK11.out.i
        have hWH := HWH.out
        have hrp : RdC w11 (some ⟨pg, 0, none⟩) u := by
          obtain ⟨_, _, ee, _, _, hr, _⟩ := hop11.rd
          injection ee with e1 _ _
          subst e1
          exact hr
        have CB := Lib.hid (back_any W H HSI.out pg 0 pc u ig 0 ic N (idxs u (-1) (cols l N)) w11 hrp (by rw [HL.out]; exact hu256) (Fresh.sl hoi11 (idxs_wf u l N (by have := HL.out; omega) (by rw [HL.out]; exact hu256))) HNW.out (idxs_lt u l N (by have := HL.out; omega)))
        rw [HL.out] at CB
        clear hw11 hab hn11 hb11 hop11 hoi11 hrp HOP HOI HK10
        go_wp2_with fail
        refine CB.out.mono ?_
        rintro e w12 ⟨v, rfl, hov, hb12⟩
        obtain ⟨Y, hY⟩ : ∃ Y, imgOf u (idxs u (-1) (cols l N)) = Y := ⟨_, rfl⟩
        have hYl : Y.length = n := by rw [← hY, imgOf_length, idxs_length, HNN.out]; simp [cols]
        rw [hY, hYl] at hov
        obtain ⟨yg, yc, rfl, _⟩ := own_form hov (by have := HNN.out; omega)
        have HOV := Lib.hid hov
        have HYE := Lib.hid hY
        have HYL := Lib.hid hYl
        have HYU : Hid (u16s Y) := Lib.hid (by rw [← hY]; exact backPix_u16s u l N HU8.out.ok)
        have HK12 := Lib.hid (HK11.out.at_below hb12)
        clear a0 a1 a2 a3 c0 c1 c2 hb12 hov hY hYl CB HK11 hWH
        go_upto_region 22 with (fail)
        obtain ⟨w13, hw13⟩ : ∃ x, w12.alloc (.cells #[.int .i64 (W : Nat), .int .i64 (H : Nat), .slice (some ⟨yg, 0, none⟩) n yc] 24) = x := ⟨_, rfl⟩
        obtain ⟨yb, hyb⟩ : ∃ x, w12.heap.size = x := ⟨_, rfl⟩
        have hn13 : w13.heap[yb]? = some (.cells #[.int .i64 (W : Nat), .int .i64 (H : Nat), .slice (some ⟨yg, 0, none⟩) n yc] 24 (0, 0)) := by rw [← hw13, ← hyb]; exact heap_alloc_new _ _
        have hb13 : Below w12.heap.size w12 w13 := by rw [← hw13]; exact (Below.refl _ _).alloc (Nat.le_refl _) _
        have HK13 := Lib.hid (HK12.out.at_below hb13)
        have HN13 := Lib.hid hn13
        have HSY := Lib.hid (Fresh.sl (ownsRow_below HOV.out hb13) (wf_u16s HYU.out))
        have HSD := Lib.hid (sl_of_row HK13.out.d HDL.out (by have := HNN.out; unfold maxLen; omega) HDU.out)
        have HSL := Lib.hid (HS.out.below HK13.out.below)
        rw [hw13, hyb]
        obtain ⟨c0, c1, c2⟩ := img_cells HK13.out.i
        obtain ⟨y0, y1, y2⟩ := img_cells hn13
        clear hw13 hyb hn13 hb13 HOV HK12
        go_wp2_with fail
        clear c0 c1 c2 y0 y1 y2
        go_loopg [14] N (fun gk s14 wr => ∃ k : Nat, k ≤ N ∧ gk = N - k ∧ s14 = .int .i64 (4 * k : Nat) ∧ Below w13.heap.size w13 wr)
        case atStart => exact ⟨0, Nat.zero_le _, rfl, by go_num, Below.refl _ _⟩
        case round =>
          obtain ⟨k, hk, hgk, rfl, hb⟩ := hrel
          have Hg := Lib.hid hgk
          have HB := Lib.hid hb
          obtain ⟨c0, c1, c2⟩ := img_cells (below_block hb HK13.out.i)
          clear hgk hb
          by_cases hlt : k < N
          · obtain ⟨x0, x1, x2⟩ := img_cells (below_block HB.out HK13.out.x)
            obtain ⟨y0, y1, y2⟩ := img_cells (below_block HB.out HN13.out)
            obtain ⟨_, _, ee, hcell⟩ := (HSL.out.below HB.out).cells (by have := HNN.out; omega)
            cases ee
            obtain ⟨_, _, ee, hcelD⟩ := (HSD.out.below HB.out).cells (by have := HNN.out; omega)
            cases ee
            have ka := hcell (4 * k + 3) (by have := HNN.out; omega)
            have kd := hcelD (4 * k + 3) (by have := HNN.out; omega)
            rw [Nat.zero_add] at kd
            have hu1 := HU.out.at (4 * k + 3)
            have hfit := HS.out.fits
            have hi1 : ((4 * k : Nat) : Int) < (n : Int) := by have := HNN.out; omega
            have hi2 : 4 * k + 3 < n := by have := HNN.out; omega
            have hi2' : 4 * k + 3 ≤ n := by omega
            have hi6 : 4 * k ≤ 1048576 := by omega
            obtain ⟨al, hal⟩ : ∃ x, l.getD (4 * k + 3) 0 = x := ⟨_, rfl⟩
            obtain ⟨ad, had⟩ : ∃ x, D.getD (4 * k + 3) 0 = x := ⟨_, rfl⟩
            rw [hal] at ka hu1
            rw [had] at kd
            have HAL := Lib.hid hal
            have HAD := Lib.hid had
            obtain ⟨ii, hii⟩ : ∃ ii, 4 * k = ii := ⟨_, rfl⟩
            have HII := Lib.hid hii
            clear hcell hcelD
            by_cases hcl : al < 32768
            · have had0 : ad = 0 := by rw [← had, ← HD.out]; exact law_clear P0 l N sz hlt (by rw [← hal] at hcl; exact hcl)
              subst had0
              rw [hii] at ka kd hi1 hi2 hi6 ⊢
              clear hal had hii hi2'
              go_wp2_with fail
              go_roundg (N - (k + 1))
              case measure => have := Hg.out; omega
              case rel => exact ⟨k + 1, by omega, rfl, congrArg (Value.int .i64) (by have := HII.out; omega), HB.out⟩
            · obtain ⟨hsa, hso⟩ := law_solid H8.out HNE.out HSZ.out.2.2 HDI.out hlt (by show 32768 ≤ l.getD (4 * k + 3) 0; rw [hal]; omega)
              change _ = offS l (imgOf (solids cs) (idxs (solids cs) (-1) (cols l N))) (4 * k) 3 at hso
              rw [HUE.out, HYE.out, HD.out] at hso
              rw [HD.out, had] at hsa
              subst hsa
              obtain ⟨o, ho⟩ : ∃ o, offS l D (4 * k) 3 = o := ⟨_, rfl⟩
              have CF : Hid (∀ (b c : Nat), (b = pb ∧ c = n) ∨ (b = yg ∧ c = yc) → ∀ d os, Calls Tryz.prog 12 #[.agg #[.int .i64 (W : Nat), .int .i64 (H : Nat), .slice (some ⟨qb0, qo0, none⟩) n cap], .agg #[.int .i64 (W : Nat), .int .i64 (H : Nat), .slice (some ⟨b, 0, none⟩) n c], .int .i64 (4 * k : Nat)] (grow (redrawn wr d) os) fun e w'' => e = .returned (.int .i64 o) ∧ ∃ p : Regrown, w'' = grow (redrawn wr p.d) p.os) := Lib.hid (by
                intro b c hbc d os
                have hbl := HB.out.trans ((below_regrown wr d os).mono HB.out.size)
                refine Calls.regrown_of ?_
                rcases hbc with ⟨e1, e2⟩ | ⟨e1, e2⟩
                · rw [← ho, e1, e2]
                  exact off_any W H W H _ _ n cap n n l D (4 * k) _ (HSL.out.below hbl) (HSD.out.below hbl) hi2' hi2'
                · rw [← ho, hso, e1, e2]
                  exact off_any W H W H _ _ n cap n yc l Y (4 * k) _ (HSL.out.below hbl) (HSY.out.below hbl) hi2' hi2')
              rw [hii] at ka kd hi1 hi2 hi6 CF ⊢
              have m0 := cell_regrown c0
              have m1 := cell_regrown c1
              have m2 := cell_regrown c2
              have m3 := cell_regrown x0
              have m4 := cell_regrown x1
              have m5 := cell_regrown x2
              have m6 := cell_regrown y0
              have m7 := cell_regrown y1
              have m8 := cell_regrown y2
              have m9 := cell_regrown kd
              clear hal had hii hso ho hi2'
              go_wp2_with fail
              clear c0 c1 c2 x0 x1 x2 y0 y1 y2 ka kd
              refine wp_region_quiet_below (by kernel_rfl) (by kernel_rfl) ?_
              repeat (go_big_quiet_step (exact CF.out _ _ (by first | exact .inl ⟨rfl, rfl⟩ | exact .inr ⟨rfl, rfl⟩) _ _))
              refine wpQuiet_nil ?_
              intro _ hw'
              obtain ⟨⟨dq, osq⟩, hw''⟩ := hw'
              subst hw''
              have HB5 := Lib.hid (HB.out.trans ((below_regrown wr dq osq).mono HB.out.size))
              clear m0 m1 m2 m3 m4 m5 m6 m7 m8 m9
              generalize grow (redrawn wr dq) osq = w14 at *
              go_wp2_with fail
              go_roundg (N - (k + 1))
              case measure => have := Hg.out; omega
              case rel => exact ⟨k + 1, by omega, rfl, congrArg (Value.int .i64) (by have := HII.out; omega), HB5.out⟩
          · obtain rfl : k = N := by omega
            have hi1 : ¬ (((4 * k : Nat) : Int) < (n : Int)) := by have := HNN.out; omega
            go_wp2_with fail
            go_ret
            exact ⟨rfl, HK13.out.below.trans (HB.out.mono HK13.out.below.size)⟩

theorem allNearest_walk (W H : Int) (p : Option Addr) (n cap : Nat) (l : List Int) (w : World) (h : Sl .u16 w p n cap l) (hr : cap * Tryz.prog.bytesOf 36 ≤ reachBytes) (ht : lit.Tab w) :
    Calls Tryz.prog 3 #[.agg #[.int .i64 W, .int .i64 H, .slice p n cap]] w fun e w' => e = .returned (.bool true) ∧ Below w.heap.size w w' := by
  have e : Tryz.prog.bytesOf 36 = 2 := by kernel_rfl
  rw [e] at hr
  have hr2 : n * 2 ≤ 140737488355328 := by
    have h1 := h.fits
    unfold reachBytes at hr
    omega
  by_cases hg : imgGood W H n
  · have h1 := hg.1
    have h2 := hg.2.1
    obtain ⟨W', rfl⟩ := Int.eq_ofNat_of_zero_le (by omega : 0 ≤ W)
    obtain ⟨H', rfl⟩ := Int.eq_ofNat_of_zero_le (by omega : 0 ≤ H)
    refine nearest_good W' H' p n cap l w h hr2 ht hg (W' * H') ?_
    have := hg.2.2.2.2.2
    rw [(sides_mul hg.1 hg.2.1 hg.2.2.1 hg.2.2.2.1).2.2] at this
    have e : ((W' * H' : Nat) : Int) = (W' : Int) * (H' : Int) := by simp
    omega
  · exact nearest_bad W H p n cap l w h hr2 ht hg
end Go.Proofs.YtioeifbobhdccaaGreatDoor
