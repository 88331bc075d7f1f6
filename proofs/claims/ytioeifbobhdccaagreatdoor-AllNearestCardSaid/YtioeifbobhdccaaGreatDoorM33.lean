/- gif: reader.extension at the words that gif.Encode writes. -/
import Derived.Test.YtioeifbobhdccaaGreatDoorM32
namespace Go.Proofs.YtioeifbobhdccaaGreatDoor
open Go.RowKit Go.Sort Go.Shelf
attribute [local go_sem] Oper.semAt_some
theorem infoBs : (Tryz.prog.info? 26).map (fun i => (i.zero, i.size, i.bytes)) = some (some (.slice none 0 0), 1, 24) := by kernel_rfl
def gr.ExtPost (g b : Nat) (rest : List Int) (x : Int) (w : World) (e : Ending) (w' : World) : Prop :=
  e = .returned (.int .i64 x) ∧ (∃ off n' cap', gr.At w' g b off n' cap' rest) ∧ w.grownBy w' (some g)
/-- what an append within a round leaves -/
def CurRun (w1 : World) (g base : Nat) (fix : List (Nat × Array Value × TypeId)) (ob : Nat) (ty e : TypeId) (size n : Nat) (xs : List Value) (vo : Value) (W : World) (v' : Value) (w2 : World) : Prop :=
  ∃ b9 c9, v' = .slice (some ⟨b9, 0, none⟩) n c9 ∧ w2.heap[ob]? = some (.cells #[vo] ty (0, 0)) ∧ CurI w1 g base fix ob ty e size n xs (w2.setCell ⟨ob, 0, none⟩ v') ∧ KeepsOthers W (w2.setCell ⟨ob, 0, none⟩ v') ∧
    (∀ j o, W.heap[j]? = some o → j ≠ ob → some j ≠ vo.ownBlock → (w2.setCell ⟨ob, 0, none⟩ v').heap[j]? = some o)
theorem ext_run {w1 W : World} {g base ob n : Nat} {fix : List (Nat × Array Value × TypeId)} {xs : List Value} {vo : Value} (ty : TypeId) (hfe : ∀ p ∈ fix, p.2.2 ≠ 26 ∧ p.1 ≠ ob) (hb : w1.heap.size ≤ base) (hwo : w1.heap.size ≤ ob) (hbs : base ≤ W.heap.size)
    (h : CurI w1 g base fix ob 128 26 1 n xs W) (ho : W.heap[ob]? = some (.cells #[vo] 128 (0, 0))) (x : Value) (hx : x.oneCell' = true) (hn : n ≤ 1048576) (g0 : Nat) (hg0 : W.heap.size = g0) :
    ∃ v' w', (Builtin.append_ #[128, 128] ty #[vo, .slice (some ⟨g0, 0, none⟩) 1 1]).run Tryz.prog (W.alloc (.cells #[x] 26)) = .ok v' w' ∧ CurRun w1 g base fix ob 128 26 1 (n + 1) (xs ++ [x]) vo W v' w' := by
  subst hg0
  obtain ⟨i0, hi, hz0, hz1, hz2⟩ := info_parts infoBs
  obtain ⟨vo', ho', hr⟩ := h.box
  rw [ho] at ho'
  cases ho'
  have hu : Below W.heap.size W (W.alloc (.cells #[x] 26)) := (Below.refl _ _).alloc (Nat.le_refl _) _
  have hnew := heap_alloc_new W (.cells #[x] 26 (0, 0))
  obtain ⟨v', w', h1, h2, h3, _, _⟩ := run_append_own_at (P := Tryz.prog) (W.alloc (.cells #[x] 26)) base 128 ty 26 i0 (.slice none 0 0) 1 24 Tryz.underlying128 hi hz0 hz1 hz2 rfl (by decide) vo n xs (ownsRow_below hr hu) ⟨W.heap.size, 0, none⟩ 1 1 [x] rfl (by
      intro j u hj
      have h1 : (⟨W.heap.size, 0, none⟩ : Addr).add j = ⟨W.heap.size, j, none⟩ := by unfold Addr.add; split <;> simp_all
      rw [h1, cell_of_row _ _ j _ _ (0, 0) hnew]
      match j, hj with
      | 0, hj => exact hj
      | j + 1, hj => cases hj) (by intro u hu; rw [List.mem_singleton.1 hu]; exact hx) (by unfold maxLen; omega) (by omega) (Nat.le_trans hbs hu.size)
  obtain ⟨g9, c9, rfl, _⟩ := own_form h2 (by omega)
  obtain ⟨k1, k2, k3, k4⟩ := h.app hfe (by decide) hb hwo ho hr hu h3 h2
  exact ⟨_, _, h1, g9, c9, rfl, k1, k2, k3, k4⟩
theorem Sl.same {k : IntKind} {w w' : World} {b off n c : Nat} {l : List Int} (h : Sl k w (some ⟨b, off, none⟩) n c l) (hb : w'.heap[b]? = w.heap[b]?) : Sl k w' (some ⟨b, off, none⟩) n c l := by
  refine ⟨h.len, h.fits, h.most, h.bare, h.wf, ?_⟩
  rcases h.rd with h0 | ⟨b', off', e, hc⟩
  · exact .inl h0
  · simp only [Option.some.injEq, Addr.mk.injEq, and_true] at e
    obtain ⟨rfl, rfl⟩ := e
    exact .inr ⟨b, off, rfl, fun i hi => (World.cell?_of_block (a := ⟨b, off + i, none⟩) hb).trans (hc i hi)⟩
def ExtSl (b : Nat) (pre : List gb.Blk) (W : World) : Prop := ∀ y ∈ pre, Sl .u8 W (some ⟨b, y.off, none⟩) y.d.length y.cap y.d
theorem ExtSl.abides {g b B : Nat} (hne : b ≠ g) (hb : b < B) : AbidesCur g B (ExtSl b) := fun s A W' row hs hgr hr y hy => (hs y hy).kept hgr (by
  intro e
  rcases hr b e.symm with h | ⟨h, _⟩
  · exact hne h
  · omega)
theorem AbidesCur.and {α : Type} {g B : Nat} {I I' : List α → World → Prop} (h : AbidesCur g B I) (h' : AbidesCur g B I') : AbidesCur g B (fun s W => I s W ∧ I' s W) := fun s A W' row hs hgr hr => ⟨h s A W' row hs.1 hgr hr, h' s A W' row hs.2 hgr hr⟩
def gifExt (x : Int) : List Int := [249, 4, 1, 0, 0, x, 0]
set_option maxRecDepth 100000 in
set_option maxHeartbeats 1600000 in
theorem grExt_any (g b off n cap : Nat) (x : Int) (rest : List Int) (w : World) (h : gr.At w g b off n cap (gifExt x ++ rest)) (hx : 0 ≤ x ∧ x < 256) (z : Int) :
    Calls Tryz.prog 28 #[.pointer (some ⟨g, 0, none⟩), .int .i64 z] w (gr.ExtPost g b rest x w) := by
  have hn1 : 1 ≤ n := by rw [← h.data.len]; simp [gifExt]
  have KO := Lib.hid (grOne_any g b off n cap _ w h hn1)
  have e1 : (gifExt x ++ rest).drop 1 = blkBytes [[1, 0, 0, x]] ++ 0 :: rest := rfl
  have E1 := Lib.hid e1
  have hgw := block_lt h.head
  clear h e1
  refine (callsIn_wide (n := 6)).1 (callsIn_of_wp_marks Tryz.func28 rfl trivial ?_ rfl)
  simp only [Tryz.ntmps28, List.size_toArray, List.length_cons, List.length_nil, Nat.reduceAdd, Nat.reduceSub, Array.replicate_succ, Array.replicate_zero, List.push_toArray, List.append_toArray, List.nil_append, List.cons_append]
  refine wpIn_wide.2 ?_
  go_wp2_with fail
  refine KO.out.mono ?_
  rintro e w1 ⟨rfl, ⟨off1, ha1⟩, hg1⟩
  rw [E1.out] at ha1
  have HA1 := Lib.hid ha1
  have HG1 := Lib.hid hg1
  obtain ⟨ob, hob⟩ : ∃ ob, w1.heap.size = ob := ⟨_, rfl⟩
  have HOB := Lib.hid hob
  have hgo : g < ob := by have := hg1.size; omega
  have hbo : b < ob := by rw [← hob]; exact ha1.lt (by simp [blkBytes])
  have HBG := Lib.hid ha1.apart
  clear ha1 hg1 hob KO
  rw [show (gifExt x ++ rest).getD 0 0 = 249 from rfl]
  go_wp2_with fail
  refine (blocks_any g _).mono ?_
  rintro e w3 ⟨rfl, rfl⟩
  obtain ⟨q1, q2⟩ := heap2 w1 (.cells #[.slice none 0 0] 128) (.cells #[.pointer (some ⟨g, 0, none⟩)] 59)
  have hB3 : Below w1.heap.size w1 ((w1.alloc (.cells #[.slice none 0 0] 128)).alloc (.cells #[.pointer (some ⟨g, 0, none⟩)] 59)) := ((Below.refl _ _).alloc (Nat.le_refl _) _).alloc (by simp) _
  have hs3 : ((w1.alloc (.cells #[.slice none 0 0] 128)).alloc (.cells #[.pointer (some ⟨g, 0, none⟩)] 59)).heap.size = ob + 1 + 1 := by simp [HOB.out]
  have hs2 : (w1.alloc (.cells #[.slice none 0 0] 128)).heap.size = ob + 1 := by simp [HOB.out]
  have HA3 := Lib.hid (HA1.out.below hB3)
  rw [HOB.out] at q1 q2
  rw [hs2, HOB.out]
  have HG3 := Lib.hid (grown_of_below hB3)
  clear hB3 HA1 hs2
  go_wp2_with fail
  generalize (w1.alloc (.cells #[.slice none 0 0] 128)).alloc (.cells #[.pointer (some ⟨g, 0, none⟩)] 59) = w3 at *
  refine (wpIn_wide (n := 6)).1 ?_
  obtain ⟨fix, hfx⟩ : ∃ x : List (Nat × Array Value × TypeId), x = [(ob + 1, #[.pointer (some ⟨g, 0, none⟩)], 59)] := ⟨_, rfl⟩
  have hfe : ∀ p ∈ fix, p.2.2 ≠ 26 ∧ p.1 ≠ ob := by
    intro p hp
    rw [hfx, List.mem_singleton] at hp
    rw [hp]
    refine ⟨by dsimp only; decide, by dsimp only; omega⟩
  have hfg : ∀ p ∈ fix, p.1 ≠ g := by
    intro p hp
    rw [hfx, List.mem_singleton] at hp
    rw [hp]
    dsimp only
    omega
  have hrm : (ob + 1, (#[.pointer (some ⟨g, 0, none⟩)] : Array Value), 59) ∈ fix := by rw [hfx]; simp
  have HFE := Lib.hid hfe
  have HFG := Lib.hid hfg
  have HRM := Lib.hid hrm
  have hI0 : CurI w1 g ob fix ob 128 26 1 ([] : List gb.Blk).length (([] : List gb.Blk).map (gb.Blk.val b)) w3 :=
    ⟨fun p hp => by rw [hfx, List.mem_singleton] at hp; rw [hp]; exact q2, ⟨_, q1, ⟨by simp, .inl ⟨rfl, rfl⟩⟩⟩, grown_any HG3.out⟩
  have HI0 := Lib.hid hI0
  have hrg : ob + 1 ≠ g := by omega
  have hpc : ∀ p ∈ [[1, 0, 0, x]], 1 ≤ p.length ∧ p.length ≤ 255 := by
    intro p hp
    rw [List.mem_singleton.1 hp]
    simp
  have HQ2 := Lib.hid q2
  have HHP := Lib.hid hpc
  clear hI0 q1 q2 hpc hfe hfg hrm hfx
  refine wpIn_rangeFunc_cur (α := gb.Blk) 12 7 (gb.Blk.val b) rfl (by omega) (gf := 92) (lb := #[.pointer (some ⟨ob + 1, 0, none⟩)]) rfl trivial (enters_of Tryz.func92 (by kernel_rfl) rfl)
    (blocks_seq 5 (ob + 1) g b [[1, 0, 0, x]] rest HHP.out hrg w3 HQ2.out _ _ _ HA3.out) (by omega) (fun h k => h.trans k) (gb.Kp.put (by omega) (by omega) (by omega)) (gb.Nx.put (by omega)) (gb.End.put (by omega) (by omega)) rfl
    (fun pre W => CurI w1 g ob fix ob 128 26 1 pre.length (pre.map (gb.Blk.val b)) W ∧ ExtSl b pre W)
    (AbidesCur.and (CurI.abides HFG.out (by have := HOB.out; omega) (by have := HOB.out; omega) (by have := HOB.out; omega) (by have := HOB.out; omega) _ _) (ExtSl.abides HBG.out (by omega)))
    ⟨HI0.out, fun y hy => by cases hy⟩ ?assign ?body ?done
  case assign =>
    intro lr x W1 K hK
    gi_wp2
    exact hK
  case body =>
    rintro lr pre xb W1 ⟨hI, hsl⟩ hnx
    unfold setTwo
    obtain ⟨vo, hbo, hrow⟩ := hI.box
    have HI := Lib.hid hI
    have HBO := Lib.hid hbo
    have HROW := Lib.hid hrow
    have HNX := Lib.hid hnx
    have HSL := Lib.hid hsl
    clear hsl
    have k0 := (cell_of_row _ _ 0 _ _ (0, 0) hbo).trans (show _ = some vo from rfl)
    have hlen : pre.length ≤ 1 := by
      obtain ⟨suf, hs⟩ := hnx.2
      have := congrArg List.length hs
      simp at this
      omega
    have hrb1 := hI.grown.size
    have hbs : ob ≤ W1.heap.size := by have := HOB.out; omega
    have hw1 : w1.heap.size ≤ ob := by have := HOB.out; omega
    clear hI hbo hrow hnx
    rw [show gb.Blk.val b xb = .slice (some ⟨b, xb.off, none⟩) xb.d.length xb.cap from rfl]
    dsimp only
    simp only [List.setIfInBounds_toArray, List.set_cons_succ, List.set_cons_zero]
    gi_upto_region 5 with (fail)
    refine round_region (by rintro ⟨_, _, h⟩; exact h) (by kernel_rfl) ?_
    go_wp2_with (at_builtin; go_must (refine wpList_of_append rfl (.tmp 13) (.tmp 15) 128 128 rfl (ext_run _ HFE.out hw1 hw1 hbs HI.out HBO.out (.slice (some ⟨b, xb.off, none⟩) xb.d.length xb.cap) rfl (by omega) _ rfl) ?_; rintro v9 w9 ⟨b9, c9, rfl, hm9, hI9, hk9, hr9⟩; have HI9 := Lib.hid hI9; have HK9 := Lib.hid hk9; have HR9 := Lib.hid hr9; have k9 := (cell_of_row w9 _ 0 _ _ (0, 0) hm9).trans (show _ = some vo from rfl); have kf := frozen_of_row w9 _ 0 _ _ hm9; clear hI9 hk9 hr9 hm9))
    have hkp := HI.out.kp (b := b) HRM.out HFE.out (by have := HOB.out; omega) (by have := HOB.out; omega) hw1 hw1 HROW.out HR9.out
    refine ⟨HK9.out, hkp, ?_, fun y hy => ?_⟩
    · rw [List.map_append, List.length_append]
      exact HI9.out
    · refine Sl.same ?_ hkp.2.2
      rcases List.mem_append.1 hy with h | h
      · exact HSL.out y h
      · rw [List.mem_singleton.1 h]
        exact HNX.out.1
  case done =>
    rintro D ys W1 hD ⟨hE, off9, n9, cap9, ha9⟩ ⟨hI, hsl⟩ hK
    obtain ⟨y, rfl, hyd⟩ : ∃ y, ys = [y] ∧ y.d = [1, 0, 0, x] := by
      have hl := congrArg List.length hE
      rw [List.length_map] at hl
      obtain ⟨y, rfl⟩ := List.length_eq_one_iff.1 hl
      exact ⟨y, rfl, by simpa using hE⟩
    have hsy := hsl y (by simp)
    obtain ⟨yo, yc, yd⟩ := y
    simp only at hyd
    subst hyd
    obtain ⟨_, _, ee, hcell⟩ := hsy.cells (by simp)
    simp only [Option.some.injEq, Addr.mk.injEq, and_true] at ee
    obtain ⟨rfl, rfl⟩ := ee
    have f0 := hcell 0 (by simp)
    have f3 := hcell 3 (by simp)
    rw [show ([1, 0, 0, x] : List Int).getD 0 0 = 1 from rfl, Nat.add_zero] at f0
    rw [show ([1, 0, 0, x] : List Int).getD 3 0 = x from rfl] at f3
    obtain ⟨vo, hbo, hrow⟩ := hI.box
    obtain ⟨b9, c9, rfl, hc9⟩ := own_form hrow (by simp)
    have HG := Lib.hid hI.grown
    have HA9 := Lib.hid ha9
    have HK := Lib.hid hK
    have k0 := (cell_of_row _ _ 0 _ _ (0, 0) hbo).trans (show _ = some (Value.slice (some ⟨b9, 0, none⟩) 1 c9) from rfl)
    have k1 := World.ownsRow.cellAt hrow 0 (by simp)
    rw [show (List.map (gb.Blk.val b) [⟨yo, yc, [1, 0, 0, x]⟩])[0]? = some (.slice (some ⟨b, yo, none⟩) 4 yc) from rfl] at k1
    have hy4 := hsy.fits
    simp only [List.length_cons, List.length_nil] at hy4
    clear hI hsl hbo hrow hsy hcell hE ha9 hK
    have hbb : (bits .and .u8 1 1 == 0) = false := by decide
    go_wp2_with fail
    have hK9 := HK.out
    refine ⟨by simp, .inl ⟨_, _, rfl, run_takeDeferred hK9, ?_⟩⟩
    have hg9 := grownBy_putObj' W1 D (.deferred none)
    have hob2 := HOB.out
    have hpost : gr.ExtPost g b rest x w (.returned (.int .i64 x)) (W1.putObj D (.deferred none)) := by
      refine ⟨rfl, ⟨off9, n9, cap9, HA9.out.kept (World.putObj_heap_other (by omega)) (World.putObj_heap_other (by omega))⟩, ?_⟩
      have h2 := HG1.out.size
      exact grown_cur (HG1.out.trans HG.out) hg9 (fun r e => by cases e; exact .inr (by omega))
    exact ⟨_, results_tmp (t := 4) rfl _ _ _, hpost⟩
end Go.Proofs.YtioeifbobhdccaaGreatDoor
