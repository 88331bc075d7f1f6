/- A reference's image of one pixel, filled. -/
import Derived.Test.YtioeifbobhdccaaGreatDoorM45
import Derived.Test.YtioeifbobhdccaaGreatDoorM46
import Derived.Test.YtioeifbobhdccaaGreatDoorM49
import Derived.Lib.SlBytesConst
import Derived.Lib.SmallJoins
namespace Go.Proofs.YtioeifbobhdccaaGreatDoor
open Go.RowKit Go.Sort
def Fill1Post (c : C4) (w : World) (e : Ending) (w' : World) : Prop :=
  ∃ g cap, e = .returned (.tuple #[.agg #[.int .i64 1, .int .i64 1, .slice (some ⟨g, 0, none⟩) 4 cap], .int .i64 0]) ∧ w'.ownsRow w.heap.size 36 1 (.slice (some ⟨g, 0, none⟩) 4 cap) 4 (c.list.map (Value.int .u16)) ∧ Below w.heap.size w w'
set_option maxRecDepth 100000 in
set_option maxHeartbeats 1600000 in
theorem fill1_any (c : C4) (w : World) :
    Calls Tryz.prog 13 #[.int .i64 1, .int .i64 1, .agg #[.int .u16 c.r, .int .u16 c.g, .int .u16 c.b, .int .u16 c.a]] w (Fill1Post c w) := by
  obtain ⟨w0, hw0, k1, k2, k3, hs0, hB0⟩ := alloc3 w (.cells #[.int .u16 c.r, .int .u16 c.g, .int .u16 c.b, .int .u16 c.a] 38) (.cells #[.int .i64 0, .int .i64 0, .slice none 0 0] 24) (.cells #[.int .i64 1, .int .i64 1, .slice none 0 0] 24)
  obtain ⟨cb, hcb⟩ : ∃ x, w.heap.size = x := ⟨_, rfl⟩
  have HCB := Lib.hid hcb
  have HB0 := Lib.hid hB0
  rw [hcb] at k1 k2 k3 hs0
  have K1 := Lib.hid k1
  have K2 := Lib.hid k2
  have K3 := Lib.hid k3
  have HW0 := Lib.hid hw0
  have HS0 := Lib.hid hs0
  clear hw0 k1 k2 k3 hs0 hB0 hcb
  go_enter Tryz.func13, Tryz.ntmps13
  go_wp2_with fail
  refine (fits_any 1 1 _).mono ?_
  rintro e w1 ⟨rfl, rfl⟩
  rw [show fitsB 1 1 = true from rfl]
  go_upto_region 4 with (fail)
  rw [← HW0.out, HCB.out]
  go_wp2_with fail
  refine wp_loop_rounds 2 ?_
  rw [rounds_succ]
  have KA := Lib.hid (refadd_any cb 1 1 none 0 0 [] c w0 (World.ownsRow_nil _ _ _ _) (by have := HS0.out; omega) (by omega))
  go_wp2_with (first
    | (with_reducible refine wpList_load_row rfl 24 _ rfl (cb + 1 + 1) rfl 24 _ (0, 0) _ K3.out Tryz.underlying24 rfl (imgSize3 _ _ _) ?_)
    | (with_reducible refine wpList_load_row rfl 38 _ rfl cb rfl 38 _ (0, 0) _ K1.out Tryz.underlying38 rfl (colSize4 _ _ _ _) ?_))
  refine KA.out.mono ?_
  rintro e w1 ⟨g, cap, rfl, hr1, hg1⟩
  simp only [Nat.zero_add, List.nil_append] at hr1
  rw [Nat.zero_add]
  have L3 := Lib.hid (grown_block hg1 K3.out (by intro e; cases e))
  have L2 := Lib.hid (grown_block hg1 K2.out (by intro e; cases e))
  have hk3 := grownBy_setRow w1 (cb + 1 + 1) #[.int .i64 1, .int .i64 1, .slice (some ⟨g, 0, none⟩) 4 cap]
  have hne3 : some (cb + 1 + 1) ≠ (Value.slice (some ⟨g, 0, none⟩) 4 cap).ownBlock := own_ne hr1 L3.out (by decide)
  have hr2 := World.ownsRow.kept hr1 hk3 (.inr hne3.symm)
  have M2 := Lib.hid (grown_block hk3 L2.out (by intro e; have := Option.some.inj e; omega))
  have M3 : Hid ((w1.setRow (cb + 1 + 1) #[.int .i64 1, .int .i64 1, .slice (some ⟨g, 0, none⟩) 4 cap]).heap[cb + 1 + 1]? = some (.cells #[.int .i64 1, .int .i64 1, .slice (some ⟨g, 0, none⟩) 4 cap] 24 (0, 0))) := Lib.hid (setRow_heap _ _ _ _ _ _ L3.out)
  have HR2 := Lib.hid hr2
  have HB2 : Hid (Below w.heap.size w (w1.setRow (cb + 1 + 1) #[.int .i64 1, .int .i64 1, .slice (some ⟨g, 0, none⟩) 4 cap])) := Lib.hid (by
    have h1 := HB0.out.grown hg1 HB0.out.size (fun k e => by cases e)
    exact h1.grown hk3 h1.size (fun k e => by cases e; have := HCB.out; omega))
  clear hr1 hg1 hk3 hne3 hr2 KA
  go_wp2_with (with_reducible refine wpList_store_row rfl 24 _ _ rfl (cb + 1 + 1) _ rfl rfl 24 _ L3.out (imgSize3 _ _ _) (imgSz _ _ _ _ _ _) (imgOne _ _ _ _ _) ?_)
  rw [rounds_succ]
  go_wp2_with (first
    | (with_reducible refine wpList_load_row rfl 24 _ rfl (cb + 1 + 1) rfl 24 _ (0, 0) _ M3.out Tryz.underlying24 rfl (imgSize3 _ _ _) ?_)
    | (with_reducible refine wpList_store_row rfl 24 _ _ rfl (cb + 1) _ rfl rfl 24 _ M2.out (imgSize3 _ _ _) (imgSz _ _ _ _ _ _) (imgOne _ _ _ _ _) ?_))
  have hk4 := grownBy_setRow (w1.setRow (cb + 1 + 1) #[.int .i64 1, .int .i64 1, .slice (some ⟨g, 0, none⟩) 4 cap]) (cb + 1) #[.int .i64 1, .int .i64 1, .slice (some ⟨g, 0, none⟩) 4 cap]
  refine bodyPost_ret (results_cell_tmp (p := 6) (q := 7) (ty := 24) rfl _ _ (cb + 1) 24 _ (0, 0) _ _ rfl rfl (setRow_heap _ _ _ _ _ _ M2.out) Tryz.underlying24 rfl imgSize) rfl ?_
  refine ⟨g, cap, rfl, ?_, HB2.out.grown hk4 HB2.out.size (fun k e => by cases e; have := HCB.out; omega)⟩
  rw [HCB.out]
  exact World.ownsRow.kept HR2.out hk4 (.inr (own_ne HR2.out M2.out (by decide)).symm)
end Go.Proofs.YtioeifbobhdccaaGreatDoor
/- lit answers true. -/
namespace Go.Proofs.YtioeifbobhdccaaGreatDoor
open Go.RowKit Go.Sort
theorem lit.sl_mark (w : World) (k : IntKind) (l : List Int) (ty : TypeId) (fr : Nat × Nat) (n : Nat) (hn : l.length = n) (hm : n ≤ maxLen) (hw : ∀ x ∈ l, (Lit.int k x).wf = true) : Sl k (w.alloc (.cells (l.map (Value.int k)).toArray ty fr)) (some ⟨w.heap.size, 0, none⟩) n n l := by
  refine ⟨hn, Nat.le_refl _, hm, (fun h => by cases h), hw, .inr ⟨_, 0, rfl, fun i hi => ?_⟩⟩
  rw [World.cell?_alloc_mark]
  simp [hi]
set_option maxRecDepth 100000 in
set_option maxHeartbeats 1600000 in
theorem lit_any (w : World) (ht : lit.Tab w) : Calls Tryz.prog 4 #[] w fun e w' => e = .returned (.bool true) ∧ Below w.heap.size w w' := by
  have HT := Lib.hid ht
  have C1 := Lib.hid (fill1_any ⟨65535, 0, 0, 65535⟩ w)
  clear ht
  go_enter Tryz.func4, Tryz.ntmps4
  go_wp2_with fail
  refine C1.out.mono ?_
  rintro e w1 ⟨g, cap, rfl, hr, hb⟩
  have HR := Lib.hid hr
  have HB := Lib.hid hb
  clear hr hb C1
  go_upto_region 2 with (fail)
  obtain ⟨w2, hw2⟩ : ∃ x, w1.alloc (.cells #[.int .i64 1, .int .i64 1, .slice (some ⟨g, 0, none⟩) 4 cap] 24) = x := ⟨_, rfl⟩
  have k2 : w2.heap[w1.heap.size]? = some (.cells #[.int .i64 1, .int .i64 1, .slice (some ⟨g, 0, none⟩) 4 cap] 24 (0, 0)) := by rw [← hw2]; exact heap_alloc_new _ _
  have b2 : Below w1.heap.size w1 w2 := by rw [← hw2]; exact (Below.refl _ _).alloc (Nat.le_refl _) _
  rw [hw2]
  have K2 := Lib.hid k2
  have HR2 := ownsRow_below HR.out b2
  have HB2 := Lib.hid (HB.out.trans (b2.mono HB.out.size))
  have sl2 : Sl .u16 w2 (some ⟨g, 0, none⟩) 4 cap [65535, 0, 0, 65535] := Fresh.sl (l := [65535, 0, 0, 65535]) HR2 (by decide)
  have C2 := Lib.hid (lit.encode_any g cap w2 sl2 (HT.out.below HB2.out))
  clear k2 b2 hw2 HR2 sl2 HR HB
  go_wp2_with (with_reducible refine wpList_load_row rfl 24 _ rfl w1.heap.size rfl 24 _ (0, 0) _ K2.out Tryz.underlying24 rfl (imgSize3 _ _ _) ?_)
  refine C2.out.mono ?_
  rintro e w3 ⟨v, rfl, hv, hb⟩
  obtain ⟨fb, fc, rfl, hfc⟩ := own_form hv (by decide)
  have HV := Lib.hid hv
  have HB3 := Lib.hid (HB2.out.trans (hb.mono HB2.out.size))
  clear hv hb C2 K2
  go_upto_region 3 with (fail)
  obtain ⟨w4, hw4⟩ : ∃ x, w3.alloc (.cells (lit.pgm.map (Value.int .u8)).toArray 5 (12, 13)) = x := ⟨_, rfl⟩
  have b4 : Below w3.heap.size w3 w4 := by rw [← hw4]; exact (Below.refl _ _).alloc (Nat.le_refl _) _
  have sl4 : Sl .u8 w4 (some ⟨w3.heap.size, 0, none⟩) 12 12 lit.pgm := by rw [← hw4]; exact lit.sl_mark w3 .u8 lit.pgm _ _ 12 rfl (by decide) (by decide)
  have C4 := Lib.hid (lit.decode_any w3.heap.size 12 w4 sl4)
  have HB4 := Lib.hid (HB3.out.trans (b4.mono HB3.out.size))
  have HV4 := Lib.hid (ownsRow_below HV.out b4)
  have HW4 := Lib.hid hw4
  have kc : (convert 26 26 (.slice (some ⟨w3.heap.size, 0, none⟩) 12 12)).run Tryz.prog (w3.alloc (.cells #[.int .u8 80, .int .u8 53, .int .u8 32, .int .u8 49, .int .u8 32, .int .u8 49, .int .u8 32, .int .u8 50, .int .u8 53, .int .u8 53, .int .u8 32, .int .u8 255] 5)) = .ok (.slice (some ⟨w3.heap.size, 0, none⟩) 12 12) w4 :=
    (Lib.run_convert_bytes_const w3 26 5 _ 12 12 Tryz.underlying26 Tryz.underlying5).trans (by rw [← hw4]; rfl)
  clear b4 sl4 HV hw4
  go_wp2_with fail
  refine C4.out.mono ?_
  rintro e w5 ⟨pb, pc, rfl, hp, hb5⟩
  have hv5 := ownsRow_below HV4.out hb5
  have HB5 := Lib.hid (HB4.out.trans (hb5.mono HB4.out.size))
  have HP := Lib.hid hp
  have HV5 := Lib.hid hv5
  clear hp hb5 hv5 kc C4 HV4 HW4
  go_upto_region 4 with (fail)
  obtain ⟨w6, hw6⟩ : ∃ x, w5.alloc (.cells #[.int .i64 1, .int .i64 1, .slice (some ⟨pb, 0, none⟩) 4 pc] 24) = x := ⟨_, rfl⟩
  have k6 : w6.heap[w5.heap.size]? = some (.cells #[.int .i64 1, .int .i64 1, .slice (some ⟨pb, 0, none⟩) 4 pc] 24 (0, 0)) := by rw [← hw6]; exact heap_alloc_new _ _
  have b6 : Below w5.heap.size w5 w6 := by rw [← hw6]; exact (Below.refl _ _).alloc (Nat.le_refl _) _
  rw [hw6]
  have hp6 := ownsRow_below HP.out b6
  have slp : Sl .u16 w6 (some ⟨pb, 0, none⟩) 4 pc [65535, 65535, 65535, 65535] := Fresh.sl (l := [65535, 65535, 65535, 65535]) hp6 (by decide)
  have slv : Sl .u8 w6 (some ⟨fb, 0, none⟩) 14 fc lit.file := Fresh.sl (ownsRow_below HV5.out b6) (by decide)
  have kc : (convert 26 9 (.slice (some ⟨fb, 0, none⟩) 14 fc)).run Tryz.prog w6 = .ok (.string ⟨#[80, 54, 10, 49, 32, 49, 10, 50, 53, 53, 10, 255, 0, 0]⟩) w6 := lit.conv_str slv (by decide)
  have c2 := (cell_of_row w6 _ 2 _ _ (0, 0) k6).trans (show _ = some (Value.slice (some ⟨pb, 0, none⟩) 4 pc) from rfl)
  obtain ⟨_, _, ee, hcell⟩ := slp.cells (by decide)
  cases ee
  have z2 := (hcell 2 (by decide)).trans (show _ = some (Value.int .u16 65535) from rfl)
  rw [Nat.zero_add] at z2
  have hpc := slp.fits
  have hpc2 : ¬ pc = 2 := by omega
  have HB6 := Lib.hid (HB5.out.trans (b6.mono HB5.out.size))
  clear k6 b6 hw6 hp6 slp slv hcell HP HV5 hpc
  go_wp2_with fail
  go_ret
  exact ⟨rfl, HB6.out⟩
end Go.Proofs.YtioeifbobhdccaaGreatDoor
