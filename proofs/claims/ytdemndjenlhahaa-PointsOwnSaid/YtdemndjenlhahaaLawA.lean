/- The law PointsApplies, walked. -/
import Derived.Test.YtdemndjenlhahaaRefA
import Derived.Test.YtdemndjenlhahaaTwice
import Derived.Test.YtdemndjenlhahaaPtLaw1
namespace Go.Proofs.Ytdemndjenlhahaa
open Go.RowKit Go.Sort Go.ChangeShapes Go.WideShapes

/-- what Apply answers, its parts -/
def apW (op : ByteArray) (a : List Int) (W H : Int) (m : Nat) : Int := if pm.applyErr op a W H m = 0 then W else 0
def apH (op : ByteArray) (a : List Int) (W H : Int) (m : Nat) : Int := if pm.applyErr op a W H m = 0 then H else 0
def apL (op : ByteArray) (a : List Int) (W H : Int) (m : Nat) (l : List Int) : List Int := if pm.applyErr op a W H m = 0 then pm.applyOut op a W l else []
theorem apL_wf {op : ByteArray} {a : List Int} {W H : Int} {m : Nat} {l : List Int} (hu : u16s l) : u16s (apL op a W H m l) := by
  unfold apL
  split
  · rename_i h
    unfold pm.applyErr at h
    split at h
    · rename_i h2
      split at h
      · rename_i hg
        obtain ⟨g1, _⟩ := of_decide_eq_true hg
        unfold pm.errOf at h2
        unfold pm.applyOut
        cases hi : pm.idx op with
        | none => rw [hi] at h2; cases h2
        | some k =>
          rw [hi] at h2
          have hok : pm.okA k a := by
            by_cases hok : pm.okA k a
            · exact hok
            · have h3 : pm.err k a = 0 := h2
              rw [show pm.err k a = 190 from if_neg hok] at h3
              cases h3
          exact out_wf (pm.idx_some hi).1 hok hu g1 _
      · cases h
    · rename_i h2
      exact absurd h h2
  · intro x hx; cases hx
theorem ApplyPost.res {op : ByteArray} {a : List Int} {W H : Int} {m : Nat} {l : List Int} {w w' : World} {e : Ending} (hu : u16s l) (h : ApplyPost op a W H m l w e w') : AppRes (pm.applyErr op a W H m) (apW op a W H m) (apH op a W H m) (apL op a W H m l) w e w' := by
  obtain ⟨p, n, cap, he, hr, hb⟩ := h
  obtain ⟨rfl, hs⟩ := sl_of_row hr (apL_wf hu)
  exact ⟨p, cap, he, hs, hb⟩

def IntsR (n : Nat) (l : List Int) (v : Value) (w : World) : Prop := ∃ g cap, v = .slice (some ⟨g, 0, none⟩) n cap ∧ Sl .i64 w (some ⟨g, 0, none⟩) n cap l
theorem IntsR.below {n : Nat} {l : List Int} {v : Value} {w w' : World} (h : IntsR n l v w) (hb : Below w.heap.size w w') : IntsR n l v w' := by
  obtain ⟨g, cap, h1, h2⟩ := h
  exact ⟨g, cap, h1, h2.below hb⟩
def ImgR (W H : Int) (L : List Int) (v : Value) (w : World) : Prop := ∃ p cap, v = .agg #[.int .i64 W, .int .i64 H, .slice p L.length cap] ∧ Sl .u16 w p L.length cap L
theorem ImgR.below {W H : Int} {L : List Int} {v : Value} {w w' : World} (h : ImgR W H L v w) (hb : Below w.heap.size w w') : ImgR W H L v w' := by
  obtain ⟨g, cap, h1, h2⟩ := h
  exact ⟨g, cap, h1, h2.below hb⟩
def TupR (E W H : Int) (L : List Int) (v : Value) (w : World) : Prop := ∃ p cap, v = .tuple #[.agg #[.int .i64 W, .int .i64 H, .slice p L.length cap], .int .i64 E] ∧ Sl .u16 w p L.length cap L
theorem TupR.below {E W H : Int} {L : List Int} {v : Value} {w w' : World} (h : TupR E W H L v w) (hb : Below w.heap.size w w') : TupR E W H L v w' := by
  obtain ⟨g, cap, h1, h2⟩ := h
  exact ⟨g, cap, h1, h2.below hb⟩
def ImgAt (base : Nat) (W H : Int) (L : List Int) (v : Value) (w : World) : Prop := ∃ g p cap, v = .pointer (some ⟨g, 0, none⟩) ∧ base ≤ g ∧ w.heap[g]? = some (.cells #[.int .i64 W, .int .i64 H, .slice p L.length cap] 41) ∧ Sl .u16 w p L.length cap L
theorem ImgAt.below {base : Nat} {W H : Int} {L : List Int} {v : Value} {w w' : World} (h : ImgAt base W H L v w) (hb : Below w.heap.size w w') : ImgAt base W H L v w' := by
  obtain ⟨g, p, cap, h1, h2, h3, h4⟩ := h
  exact ⟨g, p, cap, h1, h2, (hb.block _ (block_lt h3)).trans h3, h4.below hb⟩

set_option maxRecDepth 100000 in
set_option maxHeartbeats 6400000 in
theorem pointsApplies_walk (op : ByteArray) (a : Option Addr) (n cap : Nat) (l : List Int) (W H : Int) (q : Option Addr) (m mcap : Nat) (px : List Int) (w : World) (s : Sl .i64 w a n cap l) (z : cap * Try.prog.bytesOf 3 ≤ reachBytes) (sm : Sl .u16 w q m mcap px) (zm : mcap * Try.prog.bytesOf 31 ≤ reachBytes) :
    Calls Try.prog 5 #[.string op, .slice a n cap, .agg #[.int .i64 W, .int .i64 H, .slice q m mcap]] w fun e w' => e = .returned (.bool true) ∧ Below w.heap.size w w' := by
  have z1 := reach_int z
  have z2 := reach_u16 zm
  have hn : n ≤ 17592186044416 := by have := s.fits; omega
  have hn8 : n * 8 ≤ 140737488355328 := by have := s.fits; omega
  have hm2 : m * 2 ≤ 140737488355328 := by have := sm.fits; omega
  have HA := Lib.hid s
  have HM := Lib.hid sm
  have HL : Hid (px.length = m) := Lib.hid sm.len
  clear s z sm zm z1 z2
  obtain ⟨E', hE⟩ : ∃ x, pm.applyErr op l W H m = x := ⟨_, rfl⟩
  obtain ⟨W', hW⟩ : ∃ x, apW op l W H m = x := ⟨_, rfl⟩
  obtain ⟨H', hH⟩ : ∃ x, apH op l W H m = x := ⟨_, rfl⟩
  obtain ⟨L, hLx⟩ : ∃ x, apL op l W H m px = x := ⟨_, rfl⟩
  have HAP : Hid (∀ p1 cap1 p2 cap2 u, Sl .i64 u p1 n cap1 l → Sl .u16 u p2 px.length cap2 px → Calls Try.prog 15 #[.string op, .slice p1 n cap1, .agg #[.int .i64 W, .int .i64 H, .slice p2 px.length cap2]] u (AppRes E' W' H' L u)) := Lib.hid (fun p1 cap1 p2 cap2 u h1 h2 => by
    rw [← hE, ← hW, ← hH, ← hLx]
    have h3 := (apply_any op p1 n cap1 l W H p2 px.length cap2 px u h1 h2 h2.u16s).mono (fun _ _ h => ApplyPost.res h2.u16s h)
    rw [HL.out] at h3 ⊢
    exact h3)
  have HRF : Hid (∀ u, Sl .i64 u a n cap l → Sl .u16 u q m mcap px → Calls Try.prog 17 #[.string op, .slice a n cap, .agg #[.int .i64 W, .int .i64 H, .slice q m mcap]] u (AppRes E' W' H' L u)) := Lib.hid (fun u h1 h2 => by
    rw [← hE, ← hW, ← hH, ← hLx]
    exact (refapply_any op a n cap l W H q m mcap px u h1 hn h2).mono (fun _ _ h => ApplyPost.res h2.u16s h))
  clear hE hW hH hLx
  go_enter Try.func5, Try.ntmps5
  go_wp2_with fail
  refine (wakes_any _).mono ?_
  rintro e w1 ⟨rfl, hb⟩
  have Q1 := Lib.hid ((hb.block _ (block_lt (heap_alloc_last w (.cells #[.int .i64 W, .int .i64 H, .slice q m mcap] 41)))).trans (heap_alloc_last w _))
  have B1 := Lib.hid (((Below.refl w.heap.size w).alloc (Nat.le_refl _) (.cells #[.int .i64 W, .int .i64 H, .slice q m mcap] 41)).trans (hb.mono (by simp)))
  clear hb
  go_wp2_with fail
  have HA1 := Lib.hid (HA.out.below B1.out)
  have HM1 := Lib.hid (HM.out.below B1.out)
  refine wp_region_store (D := fun i => ([14, 15, 16, 17, 18, 19, 13, 20, 21, 7, 0, 8] : List Nat).getD i 0)
    (R := fun i v w' => match i with
        | 0 => v = .string op
        | 1 => v = .slice a n cap
        | 2 => IntsR n l v w'
        | 3 => v = .agg #[.int .i64 W, .int .i64 H, .slice q m mcap]
        | 4 => ImgR W H px v w'
        | 5 => TupR E' W' H' L v w'
        | 6 => TupR E' W' H' L v w'
        | 7 => ImgR W' H' L v w'
        | 8 => v = .int .i64 E'
        | 9 => NewImg w1.heap.size v w'
        | 10 => True
        | 11 => v = .int .i64 E'
        | _ => True)
    (R' := fun i v w' => match i with
        | 6 => TupR E' W' H' L v w'
        | 8 => v = .int .i64 E'
        | 9 => ImgAt w1.heap.size W' H' L v w'
        | 11 => v = .int .i64 E'
        | _ => True)
    (S := fun a' w' => (a'.tmps[0]? = some (.string op) ∧ a'.tmps[1]? = some (.slice a n cap) ∧ a'.tmps[5]? = some (.pointer (some ⟨w.heap.size, 0, none⟩))) ∧ Below w1.heap.size w1 w')
    10 [8, 11] (by decide) (by kernel_rfl) (by decide +kernel) (by kernel_rfl) (by decide +kernel) (by show 0 < 37; decide) (fun _ _ => trivial) ?_ ?_ ?_ ?_ ?_ ?_ ?_
  · intro i v u u' h hb
    match i, h with
    | 0, h => exact h
    | 1, h => exact h
    | 2, h => exact IntsR.below h hb
    | 3, h => exact h
    | 4, h => exact ImgR.below h hb
    | 5, h => exact TupR.below h hb
    | 6, h => exact TupR.below h hb
    | 7, h => exact ImgR.below h hb
    | 8, h => exact h
    | 9, h => exact NewImg.below h hb
    | 10, h => exact h
    | 11, h => exact h
    | i + 12, _ => trivial
  · intro i v u u' h hb
    match i, h with
    | 0, h => exact trivial
    | 1, h => exact trivial
    | 2, h => exact trivial
    | 3, h => exact trivial
    | 4, h => exact trivial
    | 5, h => exact trivial
    | 6, h => exact TupR.below h hb
    | 7, h => exact trivial
    | 8, h => exact h
    | 9, h => exact ImgAt.below h hb
    | 10, h => exact trivial
    | 11, h => exact h
    | i + 12, _ => trivial
  · intro a' u hb _ hold
    exact ⟨⟨hold 0 (by decide), hold 1 (by decide), hold 5 (by decide)⟩, hb⟩
  · refine ⟨fun _ => od_move 0 _ rfl (fun a u h => h.1.1) (fun _ => rfl), fun _ => od_move 1 _ rfl (fun a u h => h.1.2.1) (fun _ => rfl), fun _ => ?_, fun _ => od_load_row 5 _ _ _ _ _ rfl (fun a u h => ⟨h.1.2.2, (h.2.block _ (block_lt Q1.out)).trans Q1.out⟩) Try.underlying41 rfl imgSize (fun _ => rfl), fun _ => ?_, fun _ => ?_, fun _ => od_move_dep 5 19 rfl (by unfold Waits; kernel_rfl) rfl (fun _ _ h => h), fun _ => ?_, fun _ => ?_, fun _ => ?_, fun h => absurd rfl h, fun _ => od_assign_dep 8 21 rfl (by unfold Waits; kernel_rfl) rfl (fun _ _ h => h), trivial⟩
    · intro a' u hS hd
      obtain ⟨_, e0, rfl⟩ := hd 1 (by kernel_rfl)
      have e : a'.tmps[15]? = some _ := e0
      clear hd e0
      go_simp
      refine (ownI_any a n cap l _ (HA1.out.below hS.2) hn8).mono ?_
      rintro e w2 ⟨v2, rfl, ⟨g2, cap2, rfl, _, hown2⟩, hb2⟩
      exact ⟨_, rfl, ⟨g2, cap2, rfl, Fresh.sl hown2 HA.out.wf⟩, hb2⟩
    · intro a' u hS hd
      obtain ⟨_, e0, rfl⟩ := hd 3 (by kernel_rfl)
      have e : a'.tmps[17]? = some _ := e0
      clear hd e0
      go_simp
      refine (own_res W H q m mcap px _ (HM1.out.below hS.2) hm2).mono ?_
      rintro e w2 ⟨p2, cap2, rfl, hs2, hb2⟩
      exact ⟨_, rfl, ⟨p2, cap2, rfl, hs2⟩, hb2⟩
    · intro a' u hS hd
      obtain ⟨_, e0, rfl⟩ := hd 0 (by kernel_rfl)
      have f0 : a'.tmps[14]? = some _ := e0
      obtain ⟨_, e1, g2, cap2, rfl, HI2⟩ := hd 2 (by kernel_rfl)
      have f1 : a'.tmps[16]? = some _ := e1
      obtain ⟨_, e2, p3, cap3, rfl, HM3⟩ := hd 4 (by kernel_rfl)
      have f2 : a'.tmps[18]? = some _ := e2
      have HI2 := Lib.hid HI2
      have HM3 := Lib.hid HM3
      clear hd e0 e1 e2
      go_simp
      refine (HAP.out _ cap2 p3 cap3 u HI2.out HM3.out).mono ?_
      rintro e w3 ⟨p4, cap4, rfl, hs4, hb4⟩
      exact ⟨_, rfl, ⟨p4, cap4, rfl, hs4⟩, hb4⟩
    · intro a' u hS hd
      obtain ⟨_, e0, p', cap', rfl, hs⟩ := hd 6 (by kernel_rfl)
      have f0 : a'.tmps[13]? = some _ := e0
      clear hd e0
      go_simp
      exact ⟨_, rfl, ⟨p', cap', rfl, hs⟩, Below.refl _ _⟩
    · intro a' u hS hd
      obtain ⟨_, e0, p', cap', rfl, hs⟩ := hd 6 (by kernel_rfl)
      have f0 : a'.tmps[13]? = some _ := e0
      clear hd e0
      go_simp
      exact ⟨_, rfl, rfl, Below.refl _ _⟩
    · intro a' u hS hd
      clear hd
      have hsz := hS.2.size
      go_simp
      exact ⟨_, rfl, ⟨_, rfl, hsz, heap_alloc_last _ _⟩, (Below.refl _ _).alloc (Nat.le_refl _) _⟩
  · refine ⟨fun h => absurd h (by decide), fun h => absurd h (by decide), fun h => absurd h (by decide), fun h => absurd h (by decide), fun h => absurd h (by decide), fun h => absurd h (by decide), fun h => absurd h (by decide), fun h => absurd h (by decide), fun _ => ?_, fun h => absurd h (by decide), fun h => absurd h (by decide), fun _ => od_assign_dep 8 21 rfl (by unfold Waits; kernel_rfl) rfl (fun _ _ h => h), trivial⟩
    intro a' u hS hd
    obtain ⟨_, e0, p', cap', rfl, hs⟩ := hd 6 (by kernel_rfl)
    have f0 : a'.tmps[13]? = some _ := e0
    clear hd e0
    go_simp
    exact ⟨_, rfl, rfl, Below.refl _ _⟩
  · intro o a' u ho hS hd
    cases ho
    obtain ⟨_, e13, p', cap', rfl, hs'⟩ := hd 7 (by decide) (by unfold Waits; kernel_rfl)
    obtain ⟨_, e15, g, rfl, hg, hh⟩ := hd 9 (by decide) (by unfold Waits; kernel_rfl)
    refine wp_store_row _ _ _ rfl g _ (eval_tmp (t := 7) e15) (eval_tmp (t := 20) e13) 41 _ hh imgSize rfl (imgOne _ _ _ _ _) ⟨rfl, below_setRow (Below.refl _ _) hg _, fun i v hi hv hR => ?_⟩
    match i, hR with
    | 0, h => trivial
    | 1, h => trivial
    | 2, h => trivial
    | 3, h => trivial
    | 4, h => trivial
    | 5, h => trivial
    | 6, h => (obtain ⟨p5, cap5, h5, hs5⟩ := h; exact ⟨p5, cap5, h5, Sl.setRow hs5 hh _⟩)
    | 7, h => trivial
    | 8, h => exact h
    | 9, h => exact ⟨g, p', cap', Option.some.inj (hv.symm.trans e15), hg, setRow_heap u g _ _ _ _ hh, Sl.setRow hs' hh _⟩
    | 10, h => trivial
    | 11, h => exact h
    | i + 12, _ => trivial
  · intro a' w5 h
    obtain ⟨_, e8, rfl⟩ := h.new 11 (by decide) (by decide) (by decide +kernel)
    obtain ⟨_, e7, g, p7, cap7, rfl, hg, hh, hs7⟩ := h.new 9 (by decide) (by decide) (by decide +kernel)
    have e0 : a'.tmps[0]? = some (.string op) := h.old 0 (by decide)
    have e1 : a'.tmps[1]? = some (.slice a n cap) := h.old 1 (by decide)
    have e5 : a'.tmps[5]? = some (.pointer (some ⟨w.heap.size, 0, none⟩)) := h.old 5 (by decide)
    have e6 : a'.tmps[6]? = some (.bool false) := h.old 6 (by decide)
    replace e7 : a'.tmps[7]? = some (.pointer (some ⟨g, 0, none⟩)) := e7
    replace e8 : a'.tmps[8]? = some (.int .i64 E') := e8
    have hsz : a'.tmps.size = 37 := h.size
    have hdf : a'.defers = [] := h.defers
    have B5 := Lib.hid (B1.out.trans (h.below.mono B1.out.size))
    have Q5 := Lib.hid ((h.below.block _ (block_lt Q1.out)).trans Q1.out)
    have G5 := Lib.hid hh
    have S5 := Lib.hid hs7
    clear h hg hh hs7
    obtain ⟨tmps, defers⟩ := a'
    simp only at hsz hdf e0 e1 e5 e6 e7 e8
    subst hdf
    obtain ⟨ll⟩ := tmps
    match ll, hsz with
    | y0 :: y1 :: y2 :: y3 :: y4 :: y5 :: y6 :: y7 :: y8 :: y9 :: y10 :: y11 :: y12 :: y13 :: y14 :: y15 :: y16 :: y17 :: y18 :: y19 :: y20 :: y21 :: y22 :: y23 :: y24 :: y25 :: y26 :: y27 :: y28 :: y29 :: y30 :: y31 :: y32 :: y33 :: y34 :: y35 :: y36 :: [], _ =>
      obtain rfl : y0 = .string op := by simpa using e0
      obtain rfl : y1 = .slice a n cap := by simpa using e1
      obtain rfl : y5 = .pointer (some ⟨w.heap.size, 0, none⟩) := by simpa using e5
      obtain rfl : y6 = .bool false := by simpa using e6
      obtain rfl : y7 = .pointer (some ⟨g, 0, none⟩) := by simpa using e7
      obtain rfl : y8 = .int .i64 E' := by simpa using e8
      clear e0 e1 e5 e6 e7 e8
      go_wp2_with (with_reducible refine wpList_load_row rfl 41 _ rfl w.heap.size rfl 41 _ (0, 0) _ Q5.out Try.underlying41 rfl (imgSize3 _ _ _) ?_)
      refine (HRF.out w5 (HA.out.below B5.out) (HM.out.below B5.out)).mono ?_
      rintro e w6 ⟨p6, cap6, rfl, hs6, hb6⟩
      have hbA := hb6.trans (((Below.refl w6.heap.size w6).alloc (Nat.le_refl _) (.cells #[.int .i64 W', .int .i64 H', .slice p6 L.length cap6] 41)).mono hb6.size)
      have G6 := Lib.hid ((hbA.block _ (block_lt G5.out)).trans G5.out)
      have S6 := Lib.hid (S5.out.below hbA)
      have T6 := Lib.hid (hs6.below ((Below.refl w6.heap.size w6).alloc (Nat.le_refl _) (.cells #[.int .i64 W', .int .i64 H', .slice p6 L.length cap6] 41)))
      have B6 := Lib.hid (B5.out.trans (hbA.mono B5.out.size))
      clear hbA hb6 hs6
      go_wp2_with (first
        | (with_reducible refine wpList_store_row rfl 41 _ _ rfl w6.heap.size _ rfl rfl 41 _ (heap_alloc_last _ _) (imgSize3 _ _ _) (imgSz _ _ _ _ _ _) (imgOne _ _ _ _ _) ?_; rw [World.setRow_alloc_new])
        | (with_reducible refine wpList_load_row rfl 41 _ rfl g rfl 41 _ (0, 0) _ G6.out Try.underlying41 rfl (imgSize3 _ _ _) ?_)
        | (with_reducible refine wpList_load_row rfl 41 _ rfl w6.heap.size rfl 41 _ (0, 0) _ (heap_alloc_last _ _) Try.underlying41 rfl (imgSize3 _ _ _) ?_))
      refine (same_any W' H' W' H' p7 p6 L.length L.length cap7 cap6 L L _ S6.out T6.out).mono ?_
      rintro e w7 ⟨rfl, hb⟩
      rw [sameB_true ⟨rfl, rfl, rfl⟩]
      have B7 := Lib.hid (B6.out.trans (hb.mono B6.out.size))
      clear hb
      go_wp2_with fail
      go_ret
      exact ⟨rfl, B7.out⟩
end Go.Proofs.Ytdemndjenlhahaa
