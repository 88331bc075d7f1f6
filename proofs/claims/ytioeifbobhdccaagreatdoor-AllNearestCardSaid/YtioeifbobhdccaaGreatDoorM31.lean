/- gif: reader.palette. -/
import Derived.Test.YtioeifbobhdccaaGreatDoorM30
import Derived.Test.YtioeifbobhdccaaGreatDoorM15
import Derived.Test.YtioeifbobhdccaaGreatDoorM3
namespace Go.Proofs.YtioeifbobhdccaaGreatDoor
open Go.RowKit Go.Sort Go.Shelf
attribute [local go_sem] Oper.semAt_some
/-- the colours of so many triples -/
def palAt (l : List Int) (j : Nat) : C4 := ⟨257 * l.getD (3 * j) 0, 257 * l.getD (3 * j + 1) 0, 257 * l.getD (3 * j + 2) 0, 65535⟩
def palRd (l : List Int) (m : Nat) : List C4 := (List.range m).map (palAt l)
theorem palRd_length (l : List Int) (m : Nat) : (palRd l m).length = m := by simp [palRd]
def gr.PalPost (g b n cap m : Nat) (l : List Int) (w : World) (e : Ending) (w' : World) : Prop :=
  ∃ v, e = .returned v ∧ OwnC w.heap.size w' v (palRd l m) ∧ (∃ off', gr.At w' g b off' (n - 3 * m) (cap - 3 * m) (l.drop (3 * m))) ∧ w.grownBy w' (some g)
theorem Sl.part8 {k : IntKind} {w : World} {b off n cap m j : Nat} {l : List Int} (h : Sl k w (some ⟨b, off, none⟩) n cap l) (hm : m + j ≤ n) : Sl k w (some ⟨b, off + m, none⟩) j j ((l.drop m).take j) := Sl.part h hm
def palP (l : List Int) {k : Nat} (pre : List (ChIx k 3)) : List C4 := pre.map fun x => palAt l x.1
theorem palP_snoc (l : List Int) {k : Nat} (pre : List (ChIx k 3)) (x : ChIx k 3) : palP l (pre ++ [x]) = palP l pre ++ [palAt l x.1] := by simp [palP]
theorem palP_length (l : List Int) {k : Nat} (pre : List (ChIx k 3)) : (palP l pre).length = pre.length := by simp [palP]
/-- what lies below read in the elder world -/
theorem Sl.back {k : IntKind} {w w' : World} {b off n c : Nat} {l : List Int} (h : Sl k w' (some ⟨b, off, none⟩) n c l) (hB : Below w.heap.size w w') (hb : b < w.heap.size) : Sl k w (some ⟨b, off, none⟩) n c l := by
  refine ⟨h.len, h.fits, h.most, h.bare, h.wf, ?_⟩
  rcases h.rd with h0 | ⟨b', off', e, hc⟩
  · exact .inl h0
  · simp only [Option.some.injEq, Addr.mk.injEq, and_true] at e
    obtain ⟨rfl, rfl⟩ := e
    exact .inr ⟨b, off, rfl, fun i hi => (hB.cell (p := ⟨b, off + i, none⟩) hb).symm.trans (hc i hi)⟩
theorem gr.At.back {w w' : World} {g b off n cap : Nat} {l : List Int} (h : gr.At w' g b off n cap l) (hB : Below w.heap.size w w') (hg : g < w.heap.size) (hb : b < w.heap.size) : gr.At w g b off n cap l :=
  ⟨(hB.block _ hg).symm.trans h.head, h.data.back hB hb, h.apart⟩
theorem take3 {l : List Int} {k j i : Nat} (hj : j + 3 ≤ k) (hi : i < 3) : (((l.take k).drop j).take 3).getD i 0 = l.getD (j + i) 0 := by
  simp only [List.getD_eq_getElem?_getD, List.getElem?_take, List.getElem?_drop]
  rw [if_pos hi, if_pos (by omega)]
set_option maxRecDepth 100000 in
set_option maxHeartbeats 1600000 in
theorem grPalette_any (g b off n cap f s m : Nat) (l : List Int) (w : World) (h : gr.At w g b off n cap l) (hf : f < 256) (hs : f &&& 7 = s) (hm : 2 * 2 ^ s = m) (hk : 3 * m ≤ n) :
    Calls Tryz.prog 27 #[.pointer (some ⟨g, 0, none⟩), .int .i64 f] w (gr.PalPost g b n cap m l w) := by
  have hs7 : s ≤ 7 := by rw [← hs]; exact Nat.and_le_right
  have hm8 : 2 ≤ m ∧ m ≤ 256 := by
    have h1 : 2 ^ s ≤ 2 ^ 7 := Nat.pow_le_pow_right (by decide) hs7
    have h2 : 0 < 2 ^ s := Nat.pos_of_ne_zero (by simp)
    omega
  have hand : bits .and .i64 (f : Int) 7 = (s : Int) := by
    have := gr.i64_and f 7 (by omega) (by omega)
    rw [hs] at this
    exact this
  have hgw := block_lt h.head
  have H0 := Lib.hid h
  have q0 := heap_alloc_new w (.cells #[.slice none 0 0] 34 (0, 0))
  have B0 := Lib.hid ((Below.refl w.heap.size w).alloc (Nat.le_refl _) (.cells #[.slice none 0 0] 34))
  obtain ⟨k, hk3⟩ : ∃ k, 3 * m = k := ⟨_, rfl⟩
  have hsh : IntKind.i64.wrap (6 * 2 ^ s) = (k : Int) := by
    have e1 : ((6 : Int) * 2 ^ s) = (k : Int) := by
      have : 6 * 2 ^ s = k := by omega
      rw [← this]
      simp
    rw [e1]
    exact IntWalk.i64_in _ (by omega)
  rw [hk3] at hk
  have HK3 := Lib.hid hk3
  have hk8 : 6 ≤ k ∧ k ≤ 768 := by omega
  have KB := Lib.hid (grBytes_ex g b off n cap k l (w.alloc (.cells #[.slice none 0 0] 34)) (h.below B0.out) hk)
  have HFT := h.data.fits
  clear h hs hm hk3
  refine (callsIn_wide (n := 6)).1 (callsIn_of_wp_marks Tryz.func27 rfl trivial ?_ rfl)
  simp only [Tryz.ntmps27, List.size_toArray, List.length_cons, List.length_nil, Nat.reduceAdd, Nat.reduceSub, Array.replicate_succ, Array.replicate_zero, List.push_toArray, List.append_toArray, List.nil_append, List.cons_append]
  refine wpIn_wide.2 ?_
  go_wp2_with fail
  refine KB.out.mono ?_
  rintro e w1 ⟨rfl, ⟨off', ha, hw1⟩, hg1, hsl⟩
  obtain ⟨ob, hob⟩ : ∃ ob, w.heap.size = ob := ⟨_, rfl⟩
  obtain ⟨wB, hwB⟩ : ∃ x, w.setCell ⟨g, 0, none⟩ (.slice (some ⟨b, off', none⟩) (n - k : Nat) (cap - k : Nat)) = x := ⟨_, rfl⟩
  rw [World.setCell_alloc_past _ _ _ _ hgw, hwB] at hw1
  subst hw1
  have hszB : wB.heap.size = ob := by rw [← hwB, ← hob]; simp [World.setCell]
  have hgB : w.grownBy wB (some g) := by rw [← hwB]; exact grownBy_setCell3 w g 0 _
  have HGB := Lib.hid hgB
  have q1 := heap_alloc_new wB (.cells #[.slice none 0 0] 34 (0, 0))
  have hB1 : Below wB.heap.size wB (wB.alloc (.cells #[.slice none 0 0] 34)) := (Below.refl _ _).alloc (Nat.le_refl _) _
  have hs1 : (wB.alloc (.cells #[.slice none 0 0] 34)).heap.size = ob + 1 := by simp [hszB]
  rw [hszB] at q1
  have HOB := Lib.hid hob
  have HB1 := Lib.hid hB1
  have HSZB := Lib.hid hszB
  have hbw : b < w.heap.size := by
    obtain ⟨_, _, ee, hc⟩ := H0.out.data.cells (by omega)
    simp only [Option.some.injEq, Addr.mk.injEq, and_true] at ee
    obtain ⟨rfl, rfl⟩ := ee
    exact block_lt_of_cell (hc 0 (by omega))
  have HSLB : Hid (Sl .u8 wB (some ⟨b, off, none⟩) k cap (l.take k)) := Lib.hid (hsl.back hB1 (by omega))
  have HATB : Hid (gr.At wB g b off' (n - k) (cap - k) (l.drop k)) := Lib.hid (ha.back hB1 (by omega) (by omega))
  clear ha hg1 hsl hob hwB hgB hB1 hszB KB q0 hand hsh
  generalize wB.alloc (.cells #[.slice none 0 0] 34) = w1 at *
  rw [HOB.out]
  go_wp2_with fail
  refine (chunk_any (some ⟨b, off, none⟩) k cap 3 (by omega) w1).mono ?_
  rintro e w3 ⟨rfl, rfl⟩
  obtain ⟨q2, q3⟩ := heap2 w1 (.cells #[.slice (some ⟨b, off, none⟩) k cap] 26) (.cells #[.int .i64 3] 3)
  have hB3 : Below w1.heap.size w1 ((w1.alloc (.cells #[.slice (some ⟨b, off, none⟩) k cap] 26)).alloc (.cells #[.int .i64 3] 3)) := ((Below.refl _ _).alloc (Nat.le_refl _) _).alloc (by simp) _
  have hs3 : ((w1.alloc (.cells #[.slice (some ⟨b, off, none⟩) k cap] 26)).alloc (.cells #[.int .i64 3] 3)).heap.size = ob + 1 + 1 + 1 := by simp [hs1]
  rw [hs1] at q2 q3
  have q4 := (hB3.block ob (by omega)).trans q1
  have hBB : Below ob wB ((w1.alloc (.cells #[.slice (some ⟨b, off, none⟩) k cap] 26)).alloc (.cells #[.int .i64 3] 3)) := by
    have h1 := HB1.out
    rw [HSZB.out] at h1
    exact h1.trans (hB3.mono (by omega))
  have HBB := Lib.hid hBB
  clear hB3 hBB q1
  rw [hs1]
  clear hs1
  go_wp2_with fail
  generalize (w1.alloc (.cells #[.slice (some ⟨b, off, none⟩) k cap] 26)).alloc (.cells #[.int .i64 3] 3) = w3 at *
  refine (wpIn_wide (n := 6)).1 ?_
  have hch : chunks k 3 = m := by unfold chunks; rw [← HK3.out]; omega
  have HCH := Lib.hid hch
  obtain ⟨fix, hfx⟩ : ∃ x : List (Nat × Array Value × TypeId), x = [(ob + 1, #[.slice (some ⟨b, off, none⟩) k cap], 26), (ob + 1 + 1, #[.int .i64 3], 3)] := ⟨_, rfl⟩
  have HFX := Lib.hid hfx
  have hRA : BoxAt wB ob fix ob 34 38 := by
    refine ⟨by rw [HSZB.out]; exact Nat.le_refl _, by rw [HSZB.out]; exact Nat.le_refl _, fun p hp => ?_, by decide⟩
    rw [hfx] at hp
    simp only [List.mem_cons, List.not_mem_nil, or_false] at hp
    rcases hp with rfl | rfl <;> refine ⟨by dsimp only; decide, ?_⟩ <;> dsimp only <;> omega
  have HRA := Lib.hid hRA
  have hI0 : BoxI wB ob fix ob 34 38 4 (palP l ([] : List (ChIx k 3))).length (colRow (palP l ([] : List (ChIx k 3)))) w3 := by
    refine ⟨fun p hp => ?_, ⟨_, q4, ⟨by simp [colRow, palP], .inl ⟨rfl, rfl⟩⟩⟩, by rw [HSZB.out]; exact HBB.out⟩
    rw [hfx] at hp
    simp only [List.mem_cons, List.not_mem_nil, or_false] at hp
    rcases hp with rfl | rfl
    · exact q2
    · exact q3
  have HI0 := Lib.hid hI0
  have c1 := (cell_of_row _ _ 0 _ _ (0, 0) q2).trans rfl
  have c2 := (cell_of_row _ _ 0 _ _ (0, 0) q3).trans rfl
  have hkc : k ≤ cap := by omega
  have hys : ob ≤ w3.heap.size := by omega
  clear hRA hI0 hfx q2 q3 q4 hch
  refine wpIn_rangeFunc_set (α := ChIx k 3) 13 6 (fun x => chunkV b off k 3 x.1) rfl (by omega) (gf := 61) (lb := #[.pointer (some ⟨ob + 1, 0, none⟩), .pointer (some ⟨ob + 1 + 1, 0, none⟩)]) rfl trivial (enters_of Tryz.func61 (by kernel_rfl) rfl)
    (chunk_stops 5 (ob + 1) (ob + 1 + 1) _ k cap 3 (by omega) (by omega) hkc (by omega) w3 (by omega) (by omega) b off (.inr rfl) c1 c2) (fun h k => h.trans k) (KeepsTwo.put (by omega) (by omega)) (Below.refl _ _) rfl
    (fun pre W1 => BoxI wB ob fix ob 34 38 4 (palP l pre).length (colRow (palP l pre)) W1)
    (BoxI.ownFrom (by have := HSZB.out; omega) _ _)
    HI0.out ?assign ?body ?done
  case assign =>
    intro lr x W1 K hK
    gi_wp2
    exact hK
  case body =>
    rintro lr pre ⟨xi, hxi⟩ W1 hI hlen
    unfold setTwo
    have hxm : xi < m := by rw [← HCH.out]; exact hxi
    have hpm : pre.length < m := by rw [← HCH.out]; exact hlen
    have hk3 := HK3.out
    have hcv : chunkV b off k 3 xi = .slice (some ⟨b, off + 3 * xi, none⟩) 3 3 := by
      unfold chunkV
      rw [show min 3 (k - xi * 3) = 3 by omega, Nat.mul_comm xi 3]
    dsimp only
    rw [hcv]
    have HI := Lib.hid hI
    obtain ⟨vo, hbo, hrow⟩ := hI.box
    have HBO := Lib.hid hbo
    have HROW := Lib.hid hrow
    have k0 := (cell_of_row _ _ 0 _ _ (0, 0) hbo).trans (show _ = some vo from rfl)
    have hw3 : Sl .u8 W1 (some ⟨b, off, none⟩) k cap (l.take k) := HSLB.out.below HI.out.below
    have hpt := Sl.part (m := 3 * xi) (j := 3) hw3 (by omega)
    obtain ⟨_, _, ee, hcell⟩ := hpt.cells (by omega)
    simp only [Option.some.injEq, Addr.mk.injEq, and_true] at ee
    obtain ⟨rfl, rfl⟩ := ee
    have hbt := byte_getD hpt.bytes
    have m0 := hcell 0 (by omega)
    have m1 := hcell 1 (by omega)
    have m2 := hcell 2 (by omega)
    have b0 := hbt 0
    have b1 := hbt 1
    have b2 := hbt 2
    rw [take3 (by omega) (by omega)] at m0 m1 m2 b0 b1 b2
    have hpa : palAt l xi = ⟨257 * l.getD (3 * xi) 0, 257 * l.getD (3 * xi + 1) 0, 257 * l.getD (3 * xi + 2) 0, 65535⟩ := rfl
    simp only [Nat.add_zero] at m0 b0
    obtain ⟨x0, hx0⟩ : ∃ x, l.getD (3 * xi) 0 = x := ⟨_, rfl⟩
    obtain ⟨x1, hx1⟩ : ∃ x, l.getD (3 * xi + 1) 0 = x := ⟨_, rfl⟩
    obtain ⟨x2, hx2⟩ : ∃ x, l.getD (3 * xi + 2) 0 = x := ⟨_, rfl⟩
    rw [hx0] at m0 b0 hpa
    rw [hx1] at m1 b1 hpa
    rw [hx2] at m2 b2 hpa
    have HPA := Lib.hid hpa
    obtain ⟨b00, b01⟩ := b0
    obtain ⟨b10, b11⟩ := b1
    obtain ⟨b20, b21⟩ := b2
    obtain ⟨o3, ho3⟩ : ∃ o, off + 3 * xi = o := ⟨_, rfl⟩
    rw [ho3] at m0 m1 m2 ⊢
    have HHM := Lib.hid hlen
    have u0 : IntKind.u16.wrap x0 = x0 := by rw [IntKind.wrap_u16]; omega
    have u1 : IntKind.u16.wrap x1 = x1 := by rw [IntKind.wrap_u16]; omega
    have u2 : IntKind.u16.wrap x2 = x2 := by rw [IntKind.wrap_u16]; omega
    have v0 : IntKind.u16.wrap (257 * x0) = 257 * x0 := by rw [IntKind.wrap_u16]; omega
    have v1 : IntKind.u16.wrap (257 * x1) = 257 * x1 := by rw [IntKind.wrap_u16]; omega
    have v2 : IntKind.u16.wrap (257 * x2) = 257 * x2 := by rw [IntKind.wrap_u16]; omega
    clear hI hbo hrow hcv hw3 hpt hcell hbt hpa hx0 hx1 hx2 ho3 hlen hk3
    simp only [List.setIfInBounds_toArray, List.set_cons_succ, List.set_cons_zero]
    gi_wp2
    refine round_region_any (by kernel_rfl) (by kernel_rfl) (by rintro ⟨_, _, h⟩; exact h) ?_
    refine wpAny_laid_tails (D := fun i => ([14, 15, 16, 17, 18, 19, 20, 21, 22, 23, 24, 25, 26, 27, 28, 29, 30, 31] : List Nat).getD i 0)
      (R := fun rj v w' => match rj with
        | 0 => v = vo
        | 1 => v = .slice (some ⟨b, o3, none⟩) 3 3
        | 2 => v = .pointer (some ⟨b, o3, none⟩)
        | 3 => v = .int .u8 x0
        | 4 => v = .int .u16 x0
        | 5 => v = .int .u16 (257 * x0)
        | 6 => v = .slice (some ⟨b, o3, none⟩) 3 3
        | 7 => v = .pointer (some ⟨b, o3 + 1, none⟩)
        | 8 => v = .int .u8 x1
        | 9 => v = .int .u16 x1
        | 10 => v = .int .u16 (257 * x1)
        | 11 => v = .slice (some ⟨b, o3, none⟩) 3 3
        | 12 => v = .pointer (some ⟨b, o3 + 2, none⟩)
        | 13 => v = .int .u8 x2
        | 14 => v = .int .u16 x2
        | 15 => v = .int .u16 (257 * x2)
        | 16 => v = (⟨257 * x0, 257 * x1, 257 * x2, 65535⟩ : C4).val
        | 17 => NewCol W1.heap.size (⟨257 * x0, 257 * x1, 257 * x2, 65535⟩ : C4) v w'
        | _ => True)
      (S := fun a' w' => (a'.tmps[5]? = some (.pointer (some ⟨ob, 0, none⟩)) ∧ a'.tmps[6]? = some (.slice (some ⟨b, o3, none⟩) 3 3)) ∧ Below W1.heap.size W1 w')
      18 (by decide) (by kernel_rfl) (by decide +kernel) (by decide +kernel) (by decide +kernel) (by decide +kernel) (by kernel_rfl) ?_ ?_ ?_ ?_
    · intro i v u u' h hb
      match i, h with
      | 0, h => exact h
      | 1, h => exact h
      | 2, h => exact h
      | 3, h => exact h
      | 4, h => exact h
      | 5, h => exact h
      | 6, h => exact h
      | 7, h => exact h
      | 8, h => exact h
      | 9, h => exact h
      | 10, h => exact h
      | 11, h => exact h
      | 12, h => exact h
      | 13, h => exact h
      | 14, h => exact h
      | 15, h => exact h
      | 16, h => exact h
      | 17, h => exact NewCol.below h hb
      | i + 18, _ => trivial
    · intro a' u hb _ hold
      exact ⟨⟨hold 5 (by decide), hold 6 (by decide)⟩, hb⟩
    · refine ⟨?_, ?_, ?_, ?_, ?_, ?_, ?_, ?_, ?_, ?_, ?_, ?_, ?_, ?_, ?_, ?_, ?_, ?_, trivial⟩
      · intro a' u hS hd
        clear hd
        have g0 := hS.1.1
        have x0 := keep_cell hS.2 k0
        go_simp
        exact ⟨_, rfl, rfl, Below.refl _ _⟩
      · intro a' u hS hd
        clear hd
        have g0 := hS.1.2
        go_simp
        exact ⟨_, rfl, rfl, Below.refl _ _⟩
      · intro a' u hS hd
        obtain ⟨_, e0, rfl⟩ := hd 1 (by kernel_rfl)
        have f0 : a'.tmps[15]? = some _ := e0
        clear e0
        clear hd
        go_simp
        exact ⟨_, rfl, rfl, Below.refl _ _⟩
      · intro a' u hS hd
        obtain ⟨_, e0, rfl⟩ := hd 2 (by kernel_rfl)
        have f0 : a'.tmps[16]? = some _ := e0
        clear e0
        clear hd
        have x0 := keep_cell hS.2 m0
        go_simp
        exact ⟨_, rfl, rfl, Below.refl _ _⟩
      · intro a' u hS hd
        obtain ⟨_, e0, rfl⟩ := hd 3 (by kernel_rfl)
        have f0 : a'.tmps[17]? = some _ := e0
        clear e0
        clear hd
        go_simp
        exact ⟨_, rfl, rfl, Below.refl _ _⟩
      · intro a' u hS hd
        obtain ⟨_, e0, rfl⟩ := hd 4 (by kernel_rfl)
        have f0 : a'.tmps[18]? = some _ := e0
        clear e0
        clear hd
        go_simp
        exact ⟨_, rfl, rfl, Below.refl _ _⟩
      · intro a' u hS hd
        clear hd
        have g0 := hS.1.2
        go_simp
        exact ⟨_, rfl, rfl, Below.refl _ _⟩
      · intro a' u hS hd
        obtain ⟨_, e0, rfl⟩ := hd 6 (by kernel_rfl)
        have f0 : a'.tmps[20]? = some _ := e0
        clear e0
        clear hd
        go_simp
        exact ⟨_, rfl, rfl, Below.refl _ _⟩
      · intro a' u hS hd
        obtain ⟨_, e0, rfl⟩ := hd 7 (by kernel_rfl)
        have f0 : a'.tmps[21]? = some _ := e0
        clear e0
        clear hd
        have x0 := keep_cell hS.2 m1
        go_simp
        exact ⟨_, rfl, rfl, Below.refl _ _⟩
      · intro a' u hS hd
        obtain ⟨_, e0, rfl⟩ := hd 8 (by kernel_rfl)
        have f0 : a'.tmps[22]? = some _ := e0
        clear e0
        clear hd
        go_simp
        exact ⟨_, rfl, rfl, Below.refl _ _⟩
      · intro a' u hS hd
        obtain ⟨_, e0, rfl⟩ := hd 9 (by kernel_rfl)
        have f0 : a'.tmps[23]? = some _ := e0
        clear e0
        clear hd
        go_simp
        exact ⟨_, rfl, rfl, Below.refl _ _⟩
      · intro a' u hS hd
        clear hd
        have g0 := hS.1.2
        go_simp
        exact ⟨_, rfl, rfl, Below.refl _ _⟩
      · intro a' u hS hd
        obtain ⟨_, e0, rfl⟩ := hd 11 (by kernel_rfl)
        have f0 : a'.tmps[25]? = some _ := e0
        clear e0
        clear hd
        go_simp
        exact ⟨_, rfl, rfl, Below.refl _ _⟩
      · intro a' u hS hd
        obtain ⟨_, e0, rfl⟩ := hd 12 (by kernel_rfl)
        have f0 : a'.tmps[26]? = some _ := e0
        clear e0
        clear hd
        have x0 := keep_cell hS.2 m2
        go_simp
        exact ⟨_, rfl, rfl, Below.refl _ _⟩
      · intro a' u hS hd
        obtain ⟨_, e0, rfl⟩ := hd 13 (by kernel_rfl)
        have f0 : a'.tmps[27]? = some _ := e0
        clear e0
        clear hd
        go_simp
        exact ⟨_, rfl, rfl, Below.refl _ _⟩
      · intro a' u hS hd
        obtain ⟨_, e0, rfl⟩ := hd 14 (by kernel_rfl)
        have f0 : a'.tmps[28]? = some _ := e0
        clear e0
        clear hd
        go_simp
        exact ⟨_, rfl, rfl, Below.refl _ _⟩
      · intro a' u hS hd
        obtain ⟨_, e0, rfl⟩ := hd 5 (by kernel_rfl)
        have f0 : a'.tmps[19]? = some _ := e0
        clear e0
        obtain ⟨_, e1, rfl⟩ := hd 10 (by kernel_rfl)
        have f1 : a'.tmps[24]? = some _ := e1
        clear e1
        obtain ⟨_, e2, rfl⟩ := hd 15 (by kernel_rfl)
        have f2 : a'.tmps[29]? = some _ := e2
        clear e2
        clear hd
        go_simp
        exact ⟨_, rfl, rfl, Below.refl _ _⟩
      · intro a' u hS hd
        obtain ⟨_, e0, rfl⟩ := hd 16 (by kernel_rfl)
        have f0 : a'.tmps[30]? = some _ := e0
        clear e0
        clear hd
        obtain ⟨i0, hi, hz0, hz1, hz2⟩ := info_parts infoCol
        have hsz := hS.2.size
        refine wp_slice 34 38 1 _ rfl [(0, (⟨257 * x0, 257 * x1, 257 * x2, 65535⟩ : C4).val)] (by simp [Act.eval, f0]) #[.int .u16 (257 * x0), .int .u16 (257 * x1), .int .u16 (257 * x2), .int .u16 65535] i0 _ Tryz.underlying34 hi hz0 (by rw [hz1]; decide) (by rw [hz1]; decide) (by rw [hz1]; exact fill_col _) ⟨_, rfl, ⟨_, rfl, hsz, heap_alloc_new _ _⟩, (Below.refl _ _).alloc (Nat.le_refl _) _⟩
    · intro a' u h
      obtain ⟨v14, e14, h14⟩ := h.new 0 (by decide) (by decide +kernel)
      replace h14 : v14 = vo := h14
      rw [h14] at e14
      replace e14 : a'.tmps[14]? = some vo := e14
      clear h14
      obtain ⟨_, e31, bc, rfl, hbc, hcc⟩ := h.new 17 (by decide) (by decide +kernel)
      replace e31 : a'.tmps[31]? = some (.slice (some ⟨bc, 0, none⟩) 1 1) := e31
      have e5 : a'.tmps[5]? = some (.pointer (some ⟨ob, 0, none⟩)) := h.old 5 (by decide)
      have e6 : a'.tmps[6]? = some (.slice (some ⟨b, o3, none⟩) 3 3) := h.old 6 (by decide)
      have hsz : a'.tmps.size = 34 := h.size
      have hdf : a'.defers = [] := h.defers
      have hbu := h.below
      clear h
      obtain ⟨tmps, defers⟩ := a'
      simp only at hsz hdf e14 e5 e6 e31
      subst hdf
      obtain ⟨ll⟩ := tmps
      match ll, hsz with
      | y0 :: y1 :: y2 :: y3 :: y4 :: y5 :: y6 :: y7 :: y8 :: y9 :: y10 :: y11 :: y12 :: y13 :: y14 :: y15 :: y16 :: y17 :: y18 :: y19 :: y20 :: y21 :: y22 :: y23 :: y24 :: y25 :: y26 :: y27 :: y28 :: y29 :: y30 :: y31 :: y32 :: y33 :: [], _ =>
        obtain rfl : vo = y14 := by simpa using e14.symm
        obtain rfl : y5 = .pointer (some ⟨ob, 0, none⟩) := by simpa using e5
        obtain rfl : y6 = .slice (some ⟨b, o3, none⟩) 3 3 := by simpa using e6
        obtain rfl : y31 = .slice (some ⟨bc, 0, none⟩) 1 1 := by simpa using e31
        clear e14 e5 e6 e31
        have ho : OwnC ob u vo (palP l pre) := ownsRow_below HROW.out hbu
        have HO := Lib.hid ho
        have hszw : ob ≤ u.heap.size := by have := HI.out.below.size; have := HSZB.out; have := hbu.size; omega
        have HBU := Lib.hid hbu
        clear ho hbu
        refine wpList_of_append rfl (.tmp 14) (.tmp 31) 34 34 rfl (run_append_col _ _ ob vo (palP l pre) ⟨257 * x0, 257 * x1, 257 * x2, 65535⟩ HO.out (by rw [palP_length]; omega) hszw bc hcc) ?_
        rintro v9 w9 ⟨ho9, hg9, hv9⟩
        obtain ⟨b9, c9, e9, _⟩ := own_form ho9 (by simp)
        rw [show (palP l pre ++ [(⟨257 * x0, 257 * x1, 257 * x2, 65535⟩ : C4)]).length = pre.length + 1 by simp [palP_length]] at e9
        subst e9
        have HIS := Lib.hid (HI.out.app HRA.out HBO.out HROW.out HBU.out hg9 ho9)
        have ko := HIS.out.1
        have kk := (cell_of_row _ _ 0 _ _ (0, 0) ko).trans (show _ = some vo from rfl)
        have kf := frozen_of_row _ _ 0 _ _ ko
        clear ho9 hg9 hv9 ko
        go_wp2_with fail
        have HB9 := HIS.out.2.1
        have hf1 : (ob + 1, (#[.slice (some ⟨b, off, none⟩) k cap] : Array Value), 26) ∈ fix := by rw [HFX.out]; simp
        have hf2 : (ob + 1 + 1, (#[.int .i64 3] : Array Value), 3) ∈ fix := by rw [HFX.out]; simp
        refine ⟨HIS.out.2.2, ⟨(HB9.fix _ hf1).trans (HI.out.fix _ hf1).symm, (HB9.fix _ hf2).trans (HI.out.fix _ hf2).symm⟩, ?_⟩
        dsimp only
        rw [palP_snoc, HPA.out]
        exact HB9
  case done =>
    rintro D ys W1 hD ⟨hS1, hS2⟩ hI hK
    have hDw : ob ≤ D := by omega
    have hyl : ys.length = m := by rw [hS1, HCH.out]
    have hmap : palP l ys = palRd l m := by
      unfold palRd palP
      rw [← hyl, ← show ys.map (·.1) = List.range ys.length from hS2, List.map_map]
      rfl
    rw [hmap] at hI
    have HI := Lib.hid hI
    obtain ⟨vo, hbo, hrow⟩ := hI.box
    have HROW := Lib.hid hrow
    have HK := Lib.hid hK
    have k0 := (cell_of_row _ _ 0 _ _ (0, 0) hbo).trans (show _ = some vo from rfl)
    clear hI hbo hrow hK hS1 hS2 hyl hmap c1 c2
    go_wp2_with fail
    have hK9 := HK.out
    refine ⟨by simp, .inl ⟨_, _, rfl, run_takeDeferred hK9, ?_⟩⟩
    have hg9 := grownBy_putObj' W1 D (.deferred none)
    have hr9 : ∀ r, some D = some r → ∃ o : Obj, W1.heap[r]? = some o ∧ o.isCells = false := fun r e => by cases e; exact ⟨_, hK9, rfl⟩
    have hbl : Below wB.heap.size wB (W1.putObj D (.deferred none)) := take_deferred_below (by rw [HSZB.out]; exact hDw) (Nat.le_refl _) HI.out.below _
    have hpost : gr.PalPost g b n cap m l w (.returned vo) (W1.putObj D (.deferred none)) := by
      refine ⟨vo, rfl, ?_, ?_, ?_⟩
      · rw [HOB.out]
        exact own_row hg9 hr9 HROW.out
      · rw [HK3.out]
        exact ⟨off', HATB.out.below hbl⟩
      · exact HGB.out.trans (grown_some hbl)
    exact ⟨_, results_tmp (t := 4) rfl _ _ _, hpost⟩
end Go.Proofs.YtioeifbobhdccaaGreatDoor
