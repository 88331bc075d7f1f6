/- The pieces of gif.Encode: a row of bytes behind a box, two bytes of a number, an empty palette. -/
import Derived.Test.YtioeifbobhdccaaGreatDoorM21
import Derived.Test.YtioeifbobhdccaaGreatDoorM28
namespace Go.Proofs.YtioeifbobhdccaaGreatDoor
open Go.RowKit Go.Sort Go.Shelf Go.Maps
attribute [local go_sem] Oper.semAt_some
set_option maxRecDepth 100000 in
set_option maxHeartbeats 1600000 in
theorem applyNone_any (W H : Int) (p : Option Addr) (n cap : Nat) (l : List Int) (w : World) (h : Sl .u16 w p n cap l) (hg : imgGood W H n) (N : Nat) (hN : n = 4 * N)
    (qa : Option Addr) (qc : Nat) :
    Calls Tryz.prog 10 #[.agg #[.int .i64 W, .int .i64 H, .slice p n cap], .slice qa 0 qc] w fun e w' => e = .returned (.tuple #[.agg #[.int .i64 0, .int .i64 0, .slice none 0 0, .slice none 0 0], .int .i64 2]) ∧ Below w.heap.size w w' := by
  have hsides := sides_mul hg.1 hg.2.1 hg.2.2.1 hg.2.2.2.1
  have hNW : (N : Int) = W * H := by have := hg.2.2.2.2.2; omega
  have hN6 : N ≤ 65536 := by have := hg.2.2.2.2.1; omega
  have HS := Lib.hid h
  have HG := Lib.hid hg
  have HNN := Lib.hid hN
  clear h hg hN hNW hsides
  refine (callsIn_wide (n := 6)).1 (callsIn_of_wp_marks Tryz.func10 rfl trivial ?_ rfl)
  simp only [Tryz.ntmps10, List.size_toArray, List.length_cons, List.length_nil, Nat.reduceAdd, Nat.reduceSub, Array.replicate_succ, Array.replicate_zero, List.push_toArray, List.append_toArray, List.nil_append, List.cons_append]
  refine wpIn_wide.2 ?_
  go_upto_region 1 with (fail)
  obtain ⟨w0, hw0, k1, k2, k3, hs0, hB0⟩ := alloc3 w (.cells #[.int .i64 W, .int .i64 H, .slice p n cap] 24) (.cells #[.slice qa 0 qc] 34) (.cells #[.int .i64 0, .int .i64 0, .slice none 0 0, .slice none 0 0] 40)
  rw [← hw0]
  clear hw0
  obtain ⟨ib, hib⟩ : ∃ ib, w.heap.size = ib := ⟨_, rfl⟩
  have HIB := Lib.hid hib
  have HB0 := Lib.hid hB0
  rw [hib] at k1 k2 k3 hs0 ⊢
  have HS0 := Lib.hid hs0
  have K1 := Lib.hid k1
  have K2 := Lib.hid k2
  have K3 := Lib.hid k3
  clear k1 k2 k3 hs0 hB0 hib
  have c0 := (cell_of_row w0 _ 0 _ _ (0, 0) K1.out).trans (show _ = some (Value.int .i64 W) from rfl)
  have c1 := (cell_of_row w0 _ 1 _ _ (0, 0) K1.out).trans (show _ = some (Value.int .i64 H) from rfl)
  have c2 := (cell_of_row w0 _ 2 _ _ (0, 0) K1.out).trans (show _ = some (Value.slice p n cap) from rfl)
  have CG := Lib.hid (grid_any W H p n cap l w0 (HS.out.below HB0.out) HG.out N HNN.out)
  go_wp2_with fail
  refine CG.out.mono ?_
  rintro e w1 ⟨g, cb, cc, rfl, _, hb1⟩
  have HB1 := Lib.hid hb1
  have d0 := keep_cell hb1 c0
  have d1 := keep_cell hb1 c1
  have KA := Lib.hid ((hb1.block _ (block_lt K1.out)).trans K1.out)
  have KB := Lib.hid ((hb1.block _ (block_lt K2.out)).trans K2.out)
  have KC := Lib.hid ((hb1.block _ (block_lt K3.out)).trans K3.out)
  have d3 := (cell_of_row w1 _ 0 _ _ (0, 0) KB.out).trans (show _ = some (Value.slice qa 0 qc) from rfl)
  have HBw1 := Lib.hid (HB0.out.trans (hb1.mono HB0.out.size))
  clear c0 c1 c2 hb1 CG K1 K2 K3
  go_wp2_with (refine wpList_store_row rfl 40 _ _ rfl (ib + 1 + 1) #[.int .i64 0, .int .i64 0, .slice none 0 0, .slice none 0 0] rfl rfl 40 _ KC.out (palSize4 _ _ _ _) rfl (by simp [Value.oneCell']) ?_)
  exact bodyPostM_ret (results_cell_tmp (p := 4) (q := 5) (ty := 40) rfl _ _ (ib + 1 + 1) 40 _ (0, 0) _ _ rfl rfl (setRow_heap _ _ _ _ _ _ KC.out) Tryz.underlying40 rfl (palSize4 _ _ _ _)) rfl ⟨rfl, below_setRow HBw1.out (by have := HIB.out; omega) _⟩
/-- bytes behind a box, and what stays -/
abbrev OutI (w : World) (base : Nat) (fix : List (Nat × Array Value × TypeId)) (ob : Nat) (L : List Int) (W : World) : Prop := BoxI w base fix ob 26 5 1 L.length (L.map (Value.int .u8)) W
abbrev OutAt (w : World) (base : Nat) (fix : List (Nat × Array Value × TypeId)) (ob : Nat) : Prop := BoxAt w base fix ob 26 5
def OutRun (w : World) (base : Nat) (fix : List (Nat × Array Value × TypeId)) (ob : Nat) (L : List Int) (vo : Value) (W : World) (v' : Value) (w2 : World) : Prop :=
  ∃ g n c, v' = .slice (some ⟨g, 0, none⟩) n c ∧ w2.heap[ob]? = some (.cells #[vo] 26 (0, 0)) ∧ OutI w base fix ob L (w2.setCell ⟨ob, 0, none⟩ v') ∧ KeepsOthers W (w2.setCell ⟨ob, 0, none⟩ v')
theorem outRun {w W u : World} {base : Nat} {fix : List (Nat × Array Value × TypeId)} {ob : Nat} {L : List Int} {vo : Value} (ty : TypeId) (hA : OutAt w base fix ob) (h : OutI w base fix ob L W) (ho : W.heap[ob]? = some (.cells #[vo] 26 (0, 0))) (hu : Below W.heap.size W u)
    (ad : Addr) (m c : Nat) (d : List Int) (hs : Sl .u8 u (some ad) m c d) (hm : 1 ≤ m) (hb : L.length + m ≤ 140737488355328) (hbw : base ≤ W.heap.size) :
    ∃ v' w', (Builtin.append_ #[26, 26] ty #[vo, .slice (some ad) m c]).run Tryz.prog u = .ok v' w' ∧ OutRun w base fix ob (L ++ d) vo W v' w' := by
  obtain ⟨vo', ho', hr⟩ := h.box
  rw [ho] at ho'
  cases ho'
  have hlen := hs.len
  obtain ⟨v', w', h1, ⟨h2, h3⟩, _⟩ := run_append_sl_at u ty base vo _ L (ownsRow_below hr hu) ad m c d hs hb (Nat.le_trans hbw hu.size)
  rw [show L.length + m = (L ++ d).length by rw [List.length_append, hlen]] at h2
  obtain ⟨g, cp, rfl, _⟩ := own_form h2 (by rw [List.length_append, hlen]; omega)
  obtain ⟨h4, h5, h6⟩ := h.app hA ho hr hu h3 h2
  exact ⟨_, _, h1, g, _, cp, rfl, h4, h5, h6⟩
/-- .. of bytes that are written out -/
theorem outLit {w W : World} {base : Nat} {fix : List (Nat × Array Value × TypeId)} {ob : Nat} {L : List Int} {vo : Value} (ty : TypeId) (hA : OutAt w base fix ob) (h : OutI w base fix ob L W) (ho : W.heap[ob]? = some (.cells #[vo] 26 (0, 0)))
    (arr : Array Value) (m : Nat) (d : List Int) (harr : arr = (d.map (Value.int .u8)).toArray) (hm : d.length = m) (hd : sm.Bytes d) (hm1 : 1 ≤ m) (hb : L.length + m ≤ 140737488355328) (hbw : base ≤ W.heap.size) (g0 : Nat) (hg0 : W.heap.size = g0) :
    ∃ v' w', (Builtin.append_ #[26, 26] ty #[vo, .slice (some ⟨g0, 0, none⟩) m m]).run Tryz.prog (W.alloc (.cells arr 5)) = .ok v' w' ∧ OutRun w base fix ob (L ++ d) vo W v' w' := by
  subst harr
  subst hm
  exact outRun ty hA h ho ((Below.refl _ _).alloc (Nat.le_refl _) _) ⟨g0, 0, none⟩ _ _ d (sl_bytes W d 5 (0, 0) g0 hg0 (by unfold maxLen; omega) (wf_of_bytes hd)) hm1 hb hbw
def TwoPost (w : World) (base : Nat) (fix : List (Nat × Array Value × TypeId)) (ob : Nat) (L : List Int) (e : Ending) (w' : World) : Prop := e = .returned (.tuple #[]) ∧ OutI w base fix ob L w'
/-- two bytes of a number -/
def two (v : Nat) : List Int := [(v : Int) % 256, (v : Int) / 256]
theorem two_bytes (v : Nat) (hv : v ≤ 65535) : sm.Bytes (two v) := by
  intro x hx
  simp only [two, List.mem_cons, List.not_mem_nil, or_false] at hx
  rcases hx with rfl | rfl <;> omega
set_option maxRecDepth 100000 in
theorem two_any {w W : World} {base : Nat} {fix : List (Nat × Array Value × TypeId)} {ob : Nat} {L : List Int} (hA : OutAt w base fix ob) (h : OutI w base fix ob L W) (v : Nat) (hv : v ≤ 65535) (hb : L.length ≤ 1099511627776) (hbw : base ≤ W.heap.size) :
    Calls Tryz.prog 18 #[.int .i64 (v : Nat), .pointer (some ⟨ob, 0, none⟩)] W (TwoPost w base fix ob (L ++ two v)) := by
  obtain ⟨vo, ho, hr⟩ := h.box
  have hc := (cell_of_row W _ 0 _ _ (0, 0) ho).trans (show _ = some vo from rfl)
  have HA := Lib.hid hA
  have H := Lib.hid h
  have HO := Lib.hid ho
  clear h ho hr hA
  go_enter Tryz.func18, Tryz.ntmps18
  go_wp2_with (at_builtin; go_must (refine wpList_of_append rfl (.tmp 3) (.tmp 9) 26 26 rfl (outLit _ HA.out H.out HO.out #[.int .u8 ((v : Int) % 256), .int .u8 ((v : Int) / 256)] 2 (two v) rfl rfl (two_bytes v hv) (by omega) (by omega) hbw _ rfl) ?_; rintro v9 w9 ⟨b9, n9, c9, rfl, hm9, hI9, hk9⟩; have HI9 := Lib.hid hI9; have k9 := (cell_of_row w9 _ 0 _ _ (0, 0) hm9).trans (show _ = some vo from rfl); have kf := frozen_of_row w9 _ 0 _ _ hm9; clear hI9 hk9 hm9))
  refine bodyPost_end (results_none rfl _ _ _) rfl ?_
  exact ⟨rfl, HI9.out⟩

/-! ### the first bytes stand behind a mark: the first append makes a row of one's own -/
def gif6 : List Int := [71, 73, 70, 56, 57, 97]
structure OutZero (w : World) (base : Nat) (fix : List (Nat × Array Value × TypeId)) (ob bs : Nat) (W : World) : Prop where
  fix : ∀ p ∈ fix, W.heap[p.1]? = some (.cells p.2.1 p.2.2 (0, 0))
  box : W.heap[ob]? = some (.cells #[.slice (some ⟨bs, 0, none⟩) 6 6] 26 (0, 0))
  row : W.heap[bs]? = some (.cells #[.int .u8 71, .int .u8 73, .int .u8 70, .int .u8 56, .int .u8 57, .int .u8 97] 5 (6, 7))
  below : Below w.heap.size w W
  size : base ≤ W.heap.size
theorem outFirst {w W : World} {base : Nat} {fix : List (Nat × Array Value × TypeId)} {ob bs : Nat} (ty : TypeId) (hA : OutAt w base fix ob) (h : OutZero w base fix ob bs W)
    (arr : Array Value) (m : Nat) (d : List Int) (harr : arr = (d.map (Value.int .u8)).toArray) (hm : d.length = m) (hd : sm.Bytes d) (hm1 : 1 ≤ m) (hb : m ≤ 1048576) (g0 : Nat) (hg0 : W.heap.size = g0) :
    ∃ v' w', (Builtin.append_ #[26, 26] ty #[.slice (some ⟨bs, 0, none⟩) 6 6, .slice (some ⟨g0, 0, none⟩) m m]).run Tryz.prog (W.alloc (.cells arr 5)) = .ok v' w' ∧ OutRun w base fix ob (gif6 ++ d) (.slice (some ⟨bs, 0, none⟩) 6 6) W v' w' := by
  subst harr
  subst hm
  subst hg0
  obtain ⟨i0, hi, hz0, hz1, hz2⟩ := info_parts infoByte
  have hB : Below W.heap.size W (W.alloc (.cells (d.map (Value.int .u8)).toArray 5)) := (Below.refl _ _).alloc (Nat.le_refl _) _
  have hrow := (hB.block _ (block_lt h.row)).trans h.row
  have hbox := (hB.block _ (block_lt h.box)).trans h.box
  have hsl := sl_bytes W d 5 (0, 0) _ rfl (by unfold maxLen; omega) (wf_of_bytes hd)
  obtain ⟨v', w', h1, h2, h3⟩ := run_append_arg_grows (P := Tryz.prog) (W.alloc (.cells (d.map (Value.int .u8)).toArray 5)) 26 ty 5 i0 (.int .u8 0) 1 1 Tryz.underlying26 hi hz0 hz1 hz2 rfl (by decide) ⟨bs, 0, none⟩ 6 6 (gif6.map (Value.int .u8)) rfl (by
      intro j u hu
      have h1 : (⟨bs, 0, none⟩ : Addr).add j = ⟨bs, j, none⟩ := by unfold Addr.add; split <;> simp_all
      rw [h1, cell_of_row _ bs j _ _ (6, 7) hrow]
      simpa [gif6] using hu) ⟨W.heap.size, 0, none⟩ d.length d.length (d.map (Value.int .u8)) (by simp) hsl.at_news (by omega) (by unfold maxLen; omega) (by omega)
  have hlen : 6 + d.length = (gif6 ++ d).length := by simp [gif6]; omega
  rw [hlen, ← List.map_append] at h2
  obtain ⟨g, cp, rfl, _⟩ := own_form h2 (by rw [← hlen]; omega)
  have hb3 : Below (W.alloc (.cells (d.map (Value.int .u8)).toArray 5)).heap.size (W.alloc (.cells (d.map (Value.int .u8)).toArray 5)) w' := (Below.refl _ _).grown h3 (Nat.le_refl _) (fun j e => by cases e)
  have hbw : Below W.heap.size W w' := hB.trans (hb3.mono hB.size)
  have hbx := (hbw.block _ (block_lt h.box)).trans h.box
  have k := grownBy_setCell3 w' ob 0 (.slice (some ⟨g, 0, none⟩) (gif6 ++ d).length cp)
  refine ⟨_, _, h1, g, _, cp, rfl, hbx, ⟨fun p hp => grown_block k ((hbw.block _ (block_lt (h.fix p hp))).trans (h.fix p hp)) (by intro e; exact (hA.f p hp).2 (Option.some.inj e)), ⟨_, heap_setCell_same w' ob 0 _ _ _ hbx, World.ownsRow.kept (World.ownsRow.mono h2 (Nat.le_trans h.size hB.size)) k (.inr fun e => own_ne h2 hbx (by decide) e.symm)⟩, ?_⟩, (keepsOthers_below hbw).trans (KeepsOthers.setCell _ _ _)⟩
  exact (h.below.trans (hbw.mono h.below.size)).setCell (p := ⟨ob, 0, none⟩) hA.o1 _
set_option maxRecDepth 100000 in
theorem twoFirst_any {w W : World} {base : Nat} {fix : List (Nat × Array Value × TypeId)} {ob bs : Nat} (hA : OutAt w base fix ob) (h : OutZero w base fix ob bs W) (v : Nat) (hv : v ≤ 65535) :
    Calls Tryz.prog 18 #[.int .i64 (v : Nat), .pointer (some ⟨ob, 0, none⟩)] W (TwoPost w base fix ob (gif6 ++ two v)) := by
  have hc := (cell_of_row W _ 0 _ _ (0, 0) h.box).trans (show _ = some (Value.slice (some ⟨bs, 0, none⟩) 6 6) from rfl)
  have HA := Lib.hid hA
  have H := Lib.hid h
  clear h hA
  go_enter Tryz.func18, Tryz.ntmps18
  go_wp2_with (at_builtin; go_must (refine wpList_of_append rfl (.tmp 3) (.tmp 9) 26 26 rfl (outFirst _ HA.out H.out #[.int .u8 ((v : Int) % 256), .int .u8 ((v : Int) / 256)] 2 (two v) rfl rfl (two_bytes v hv) (by omega) (by omega) _ rfl) ?_; rintro v9 w9 ⟨b9, n9, c9, rfl, hm9, hI9, hk9⟩; have HI9 := Lib.hid hI9; have k9 := (cell_of_row w9 _ 0 _ _ (0, 0) hm9).trans (show _ = some (Value.slice (some ⟨bs, 0, none⟩) 6 6) from rfl); have kf := frozen_of_row w9 _ 0 _ _ hm9; clear hI9 hk9 hm9))
  refine bodyPost_end (results_none rfl _ _ _) rfl ?_
  exact ⟨rfl, HI9.out⟩
end Go.Proofs.YtioeifbobhdccaaGreatDoor
