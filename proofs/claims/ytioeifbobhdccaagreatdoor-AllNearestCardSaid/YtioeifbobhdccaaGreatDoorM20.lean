/- Grid.All: an iterator of one's own. -/
import Derived.Test.YtioeifbobhdccaaGreatDoorM15
import Derived.Test.YtioeifbobhdccaaGreatDoorM19
namespace Go.Proofs.YtioeifbobhdccaaGreatDoor
open Go.RowKit Go.Sort Go.Shelf
attribute [local go_sem] Oper.semAt_some
def KeepsL (bs : List Nat) (W W' : World) : Prop := ∀ j ∈ bs, W'.heap[j]? = W.heap[j]?
theorem KeepsL.trans {bs : List Nat} {W W' W'' : World} (h : KeepsL bs W W') (k : KeepsL bs W' W'') : KeepsL bs W W'' := fun j hj => (k j hj).trans (h j hj)
theorem KeepsL.refl (bs : List Nat) (W : World) : KeepsL bs W W := fun _ _ => rfl
theorem KeepsL.below {bs : List Nat} {W W' : World} (hs : ∀ j ∈ bs, j < W.heap.size) (hb : Below W.heap.size W W') : KeepsL bs W W' := fun j hj => hb.block j (hs j hj)
theorem KeepsL.put {bs : List Nat} {w : World} (hs : ∀ j ∈ bs, j < w.heap.size) (W : World) (l : Nat) (o o' : Obj) (hl : w.heap.size ≤ l) (_ : W.heap[l]? = some o) (_ : o.isCells = false) (_ : o.isWalk = false) : KeepsL bs W (W.putObj l o') :=
  fun j hj => World.putObj_heap_other (by have := hs j hj; omega)
/-- a place of a grid -/
abbrev GIx (N : Nat) := { k : Nat // k < N }
def upTo {N : Nat} (pre : List (GIx N)) : Prop := pre.map (·.1) = List.range pre.length
theorem upTo_snoc {N : Nat} {pre : List (GIx N)} (h : upTo pre) (x : GIx N) (hx : x.1 = pre.length) : upTo (pre ++ [x]) := by
  unfold upTo at *
  rw [List.map_append, h, List.length_append]
  simp [List.range_succ, hx]
def gridEnc (W : Int) (t : List C4) {N : Nat} (x : GIx N) : Array Value := #[.agg #[.int .i64 ((x.1 : Int) % W), .int .i64 ((x.1 : Int) / W)], (t.getD x.1 ⟨0, 0, 0, 0⟩).val]
set_option maxRecDepth 100000 in
set_option maxHeartbeats 2000000 in
theorem all1_in (n l bx g cb cc N : Nat) (W H : Int) (t : List C4) (hN : t.length = N) (hNW : (N : Int) = W * H) (hW1 : 1 ≤ W) (hN6 : N ≤ 65536)
    (J Jx : List (GIx N) → World → Prop) (hJb : ∀ pre W W', J pre W → Below W.heap.size W W' → J pre W')
    (hY : ∀ pre x W', J pre W' → pre.length < N → YieldAt Fence.wide (n - 1) Tryz.prog l (gridEnc W t x) W' fun e W'' =>
      (e = .returned (.bool true) ∧ J (pre ++ [x]) W'' ∧ KeepsL [bx, g, cb] W' W'') ∨ (e = .returned (.bool false) ∧ Jx (pre ++ [x]) W''))
    (w : World) (hb : w.heap[bx]? = some (.cells #[.pointer (some ⟨g, 0, none⟩)] 70 (0, 0))) (base : Nat) (hg : GridAt base w g W H t cb cc) (h0 : J [] w) :
    CallsIn Fence.wide n Tryz.prog 67 #[.func (.yield l) #[] #[], .pointer (some ⟨bx, 0, none⟩)] w fun e W' => (∃ v, e = .returned v) ∧
      ((∃ ys, (ys.length = N ∧ upTo ys) ∧ J ys W') ∨ (∃ pre, (pre.length ≤ N ∧ upTo pre) ∧ Jx pre W')) := by
  have hY' := Lib.hid hY
  have HD := Lib.hid hJb
  have H0 := Lib.hid h0
  have HB := Lib.hid hb
  have HG := Lib.hid hg
  have HN := Lib.hid hN
  clear hY hJb h0 hb hg
  have kb := (cell_of_row w _ 0 _ _ (0, 0) HB.out).trans (show _ = some (Value.pointer (some ⟨g, 0, none⟩)) from rfl)
  have CW : Hid (∀ d, Calls Tryz.prog 68 #[.pointer (some ⟨g, 0, none⟩)] (w.drewN d) fun e w' => e = .returned (.int .i64 W) ∧ w' = w.drewN d) := Lib.hid (fun d => gridW_any (HG.out.below (below_drewN (Below.refl _ _) d)))
  have CH : Hid (∀ d, Calls Tryz.prog 69 #[.pointer (some ⟨g, 0, none⟩)] (w.drewN d) fun e w' => e = .returned (.int .i64 H) ∧ w' = w.drewN d) := Lib.hid (fun d => gridH_any (HG.out.below (below_drewN (Below.refl _ _) d)))
  have HNW2 := Lib.hid (show W * H = (N : Int) from hNW.symm)
  refine callsIn_of_wp Tryz.func67 rfl trivial ?_ rfl
  simp only [Tryz.ntmps67, List.size_toArray, List.length_cons, List.length_nil, Nat.reduceAdd, Nat.reduceSub, Array.replicate_succ, Array.replicate_zero, List.push_toArray, List.append_toArray, List.nil_append, List.cons_append]
  gi_wp2
  refine wpIn_wide.2 ?_
  go_quiet (first | exact Calls.quiet_of_same (CW.out _) | exact Calls.quiet_of_same (CH.out _))
  rw [HNW2.out]
  go_wp2_with fail
  gi_wp2
  gi_loopw [9] (fun i wr => ∃ (k : Nat) (pre : List (GIx N)), i = .int .i64 (k : Nat) ∧ pre.length = k ∧ k ≤ N ∧ upTo pre ∧ J pre wr ∧ KeepsL [bx, g, cb] w wr)
    (fun i _ => N - (intOf i).toNat)
  case atStart => exact ⟨0, [], by simp, rfl, Nat.zero_le _, rfl, HD.out _ _ _ H0.out (below_drewN (Below.refl _ _) _), (KeepsL.refl _ _)⟩
  case round =>
    obtain ⟨k, pre, rfl, hpk, hk, hup, hJs, hnx⟩ := hrel
    clear hNW
    have HUP := Lib.hid hup
    have HPK := Lib.hid hpk
    have HJ := Lib.hid hJs
    have HKL := Lib.hid hnx
    have kb := (cell_of_row wr _ 0 _ _ (0, 0) ((hnx bx (by simp)).trans HB.out)).trans (show _ = some (Value.pointer (some ⟨g, 0, none⟩)) from rfl)
    have hgr := (hnx g (by simp)).trans HG.out.head
    have k0 := (cell_of_row wr _ 0 _ _ (0, 0) hgr).trans (show _ = some (Value.int .i64 W) from rfl)
    have k2 := (cell_of_row wr _ 2 _ _ (0, 0) hgr).trans (show _ = some (Value.slice (some ⟨cb, 0, none⟩) t.length cc) from rfl)
    rw [HN.out] at k2
    have hcr : Hid (wr.heap[cb]? = w.heap[cb]?) := Lib.hid (hnx cb (by simp))
    have hlt3 : ∀ j ∈ [bx, g, cb], j < wr.heap.size := by
      intro j hj
      simp only [List.mem_cons, List.not_mem_nil, or_false] at hj
      obtain ⟨cur, hcu, _⟩ := RowC.block (t := t) HG.out.cells |>.2
      rcases hj with rfl | rfl | rfl
      · exact block_lt ((hnx _ (by simp)).trans HB.out)
      · exact block_lt hgr
      · exact block_lt (hcr.out.trans hcu)
    have HLT := Lib.hid hlt3
    clear hup hpk hJs hnx hgr CW CH hlt3
    by_cases hlt : k < N
    · obtain ⟨cv, hcv⟩ : ∃ c : C4, t.getD k ⟨0, 0, 0, 0⟩ = c := ⟨_, rfl⟩
      have hc : t[k]? = some cv := by
        rw [← hcv, List.getD_eq_getElem?_getD, List.getElem?_eq_getElem (by rw [HN.out]; exact hlt)]
        rfl
      have HCV := Lib.hid hcv
      clear hcv
      have hrow : RowC base w cb cc t := HG.out.cells
      have HC := Lib.hid hc
      have HROW := Lib.hid hrow
      have q0 := (World.cell?_of_block (a := ⟨cb, k * 4, none⟩) hcr.out).trans (HROW.out.cell HC.out (f := 0) (by decide) rfl)
      have q1 := (World.cell?_of_block (a := ⟨cb, k * 4 + 1, none⟩) hcr.out).trans (HROW.out.cell HC.out (f := 1) (by decide) rfl)
      have q2 := (World.cell?_of_block (a := ⟨cb, k * 4 + 2, none⟩) hcr.out).trans (HROW.out.cell HC.out (f := 2) (by decide) rfl)
      have q3 := (World.cell?_of_block (a := ⟨cb, k * 4 + 3, none⟩) hcr.out).trans (HROW.out.cell HC.out (f := 3) (by decide) rfl)
      have HTM : Hid ((k : Int).tmod W = (k : Int) % W) := Lib.hid (Int.tmod_eq_emod_of_nonneg (by omega))
      have HTD : Hid (IntKind.i64.wrap ((k : Int) / W) = (k : Int) / W) := by
        have h1 : (0 : Int) ≤ (k : Int) / W := Int.ediv_nonneg (by omega) (by omega)
        have h2 : (k : Int) / W ≤ (k : Int) := Int.ediv_le_self _ (by omega)
        exact Lib.hid (IntWalk.i64_in _ (by omega))
      clear hc hrow hcr
      gi_wp2
      refine wpIn_region_any (by kernel_rfl) ?_
      refine wpAnyIn_laid_tails (fun h h' => oper_wide h h') (D := fun i => ([12, 13, 14, 15, 16, 17, 18, 19, 20, 21, 22, 23, 24, 25, 26, 27, 28, 29, 30, 31, 32] : List Nat).getD i 0)
        (R := fun i v w' => match i with
          | 0 => v = .func (.yield l) #[] #[]
          | 1 => v = .int .i64 (k : Nat)
          | 2 => v = .pointer (some ⟨g, 0, none⟩)
          | 3 => v = .pointer (some ⟨g, 0, none⟩)
          | 4 => v = .pointer (some ⟨g, 0, none⟩)
          | 5 => v = .int .i64 W
          | 6 => v = .int .i64 ((k : Int) % W)
          | 7 => v = .int .i64 (k : Nat)
          | 8 => v = .pointer (some ⟨g, 0, none⟩)
          | 9 => v = .pointer (some ⟨g, 0, none⟩)
          | 10 => v = .pointer (some ⟨g, 0, none⟩)
          | 11 => v = .int .i64 W
          | 12 => v = .int .i64 ((k : Int) / W)
          | 13 => v = .agg #[.int .i64 ((k : Int) % W), .int .i64 ((k : Int) / W)]
          | 14 => v = .pointer (some ⟨g, 0, none⟩)
          | 15 => v = .pointer (some ⟨g, 0, none⟩)
          | 16 => v = .pointer (some ⟨g, 2, none⟩)
          | 17 => v = .slice (some ⟨cb, 0, none⟩) N cc
          | 18 => v = .int .i64 (k : Nat)
          | 19 => v = .pointer (some ⟨cb, k * 4, none⟩)
          | 20 => v = cv.val
          | _ => True)
        (S := fun a' w' => (a'.tmps[0]? = some (.func (.yield l) #[] #[]) ∧ a'.tmps[1]? = some (.pointer (some ⟨bx, 0, none⟩)) ∧ a'.tmps[3]? = some (.int .i64 (k : Nat))) ∧ Below wr.heap.size wr w')
        21 (by decide) (by kernel_rfl) (by decide +kernel) (by decide +kernel) (by decide +kernel) (by decide +kernel) (by kernel_rfl) ?_ ?_ (by kernel_rfl) ?_ ?_
      · intro i v u u' h hb
        match i, h with
        | 0, h => exact h
        | 1, h => exact h
        | 2, h => exact h
        | 3, h => exact h
        | 4, h => exact h
        | 5, h => exact h
        | 6, h => exact h
        | 7, h => exact h
        | 8, h => exact h
        | 9, h => exact h
        | 10, h => exact h
        | 11, h => exact h
        | 12, h => exact h
        | 13, h => exact h
        | 14, h => exact h
        | 15, h => exact h
        | 16, h => exact h
        | 17, h => exact h
        | 18, h => exact h
        | 19, h => exact h
        | 20, h => exact h
        | i + 21, _ => trivial
      · intro a' u hb _ hold
        exact ⟨⟨hold 0 (by decide), hold 1 (by decide), hold 3 (by decide)⟩, hb⟩
      · refine ⟨?_, ?_, ?_, ?_, ?_, ?_, ?_, ?_, ?_, ?_, ?_, ?_, ?_, ?_, ?_, ?_, ?_, ?_, ?_, ?_, ?_, trivial⟩
        · intro a' u hS hd
          clear hd
          have g0 := hS.1.1
          go_simp
          exact ⟨_, rfl, rfl, Below.refl _ _⟩
        · intro a' u hS hd
          clear hd
          have g0 := hS.1.2.2
          go_simp
          exact ⟨_, rfl, rfl, Below.refl _ _⟩
        · intro a' u hS hd
          clear hd
          have g0 := hS.1.2.1
          have x0 := keep_cell hS.2 kb
          go_simp
          exact ⟨_, rfl, rfl, Below.refl _ _⟩
        · intro a' u hS hd
          obtain ⟨_, e0, rfl⟩ := hd 2 (by kernel_rfl)
          have f0 : a'.tmps[14]? = some _ := e0
          clear e0
          clear hd
          go_simp
          exact ⟨_, rfl, rfl, Below.refl _ _⟩
        · intro a' u hS hd
          obtain ⟨_, e0, rfl⟩ := hd 3 (by kernel_rfl)
          have f0 : a'.tmps[15]? = some _ := e0
          clear e0
          clear hd
          go_simp
          exact ⟨_, rfl, rfl, Below.refl _ _⟩
        · intro a' u hS hd
          obtain ⟨_, e0, rfl⟩ := hd 4 (by kernel_rfl)
          have f0 : a'.tmps[16]? = some _ := e0
          clear e0
          clear hd
          have x0 := keep_cell hS.2 k0
          go_simp
          exact ⟨_, rfl, rfl, Below.refl _ _⟩
        · intro a' u hS hd
          obtain ⟨_, e0, rfl⟩ := hd 1 (by kernel_rfl)
          have f0 : a'.tmps[13]? = some _ := e0
          clear e0
          obtain ⟨_, e1, rfl⟩ := hd 5 (by kernel_rfl)
          have f1 : a'.tmps[17]? = some _ := e1
          clear e1
          clear hd
          have hW0 : ¬ W = 0 := by omega
          have hq := HTM.out
          go_simp
          exact ⟨_, rfl, rfl, Below.refl _ _⟩
        · intro a' u hS hd
          clear hd
          have g0 := hS.1.2.2
          go_simp
          exact ⟨_, rfl, rfl, Below.refl _ _⟩
        · intro a' u hS hd
          clear hd
          have g0 := hS.1.2.1
          have x0 := keep_cell hS.2 kb
          go_simp
          exact ⟨_, rfl, rfl, Below.refl _ _⟩
        · intro a' u hS hd
          obtain ⟨_, e0, rfl⟩ := hd 8 (by kernel_rfl)
          have f0 : a'.tmps[20]? = some _ := e0
          clear e0
          clear hd
          go_simp
          exact ⟨_, rfl, rfl, Below.refl _ _⟩
        · intro a' u hS hd
          obtain ⟨_, e0, rfl⟩ := hd 9 (by kernel_rfl)
          have f0 : a'.tmps[21]? = some _ := e0
          clear e0
          clear hd
          go_simp
          exact ⟨_, rfl, rfl, Below.refl _ _⟩
        · intro a' u hS hd
          obtain ⟨_, e0, rfl⟩ := hd 10 (by kernel_rfl)
          have f0 : a'.tmps[22]? = some _ := e0
          clear e0
          clear hd
          have x0 := keep_cell hS.2 k0
          go_simp
          exact ⟨_, rfl, rfl, Below.refl _ _⟩
        · intro a' u hS hd
          obtain ⟨_, e0, rfl⟩ := hd 7 (by kernel_rfl)
          have f0 : a'.tmps[19]? = some _ := e0
          clear e0
          obtain ⟨_, e1, rfl⟩ := hd 11 (by kernel_rfl)
          have f1 : a'.tmps[23]? = some _ := e1
          clear e1
          clear hd
          have hW0 : ¬ W = 0 := by omega
          have hq := HTD.out
          go_simp
          exact ⟨_, rfl, rfl, Below.refl _ _⟩
        · intro a' u hS hd
          obtain ⟨_, e0, rfl⟩ := hd 6 (by kernel_rfl)
          have f0 : a'.tmps[18]? = some _ := e0
          clear e0
          obtain ⟨_, e1, rfl⟩ := hd 12 (by kernel_rfl)
          have f1 : a'.tmps[24]? = some _ := e1
          clear e1
          clear hd
          refine wp_built _ _ rfl [(0, .int .i64 ((k : Int) % W)), (1, .int .i64 ((k : Int) / W))] #[.int .i64 ((k : Int) % W), .int .i64 ((k : Int) / W)] (by simp [Act.eval, f0, f1]) rfl ⟨_, rfl, rfl, Below.refl _ _⟩
        · intro a' u hS hd
          clear hd
          have g0 := hS.1.2.1
          have x0 := keep_cell hS.2 kb
          go_simp
          exact ⟨_, rfl, rfl, Below.refl _ _⟩
        · intro a' u hS hd
          obtain ⟨_, e0, rfl⟩ := hd 14 (by kernel_rfl)
          have f0 : a'.tmps[26]? = some _ := e0
          clear e0
          clear hd
          go_simp
          exact ⟨_, rfl, rfl, Below.refl _ _⟩
        · intro a' u hS hd
          obtain ⟨_, e0, rfl⟩ := hd 15 (by kernel_rfl)
          have f0 : a'.tmps[27]? = some _ := e0
          clear e0
          clear hd
          go_simp
          exact ⟨_, rfl, rfl, Below.refl _ _⟩
        · intro a' u hS hd
          obtain ⟨_, e0, rfl⟩ := hd 16 (by kernel_rfl)
          have f0 : a'.tmps[28]? = some _ := e0
          clear e0
          clear hd
          have x0 := keep_cell hS.2 k2
          go_simp
          exact ⟨_, rfl, rfl, Below.refl _ _⟩
        · intro a' u hS hd
          clear hd
          have g0 := hS.1.2.2
          go_simp
          exact ⟨_, rfl, rfl, Below.refl _ _⟩
        · intro a' u hS hd
          obtain ⟨_, e0, rfl⟩ := hd 17 (by kernel_rfl)
          have f0 : a'.tmps[29]? = some _ := e0
          clear e0
          obtain ⟨_, e1, rfl⟩ := hd 18 (by kernel_rfl)
          have f1 : a'.tmps[30]? = some _ := e1
          clear e1
          clear hd
          have hkN : (k : Int) < (N : Int) := by omega
          go_simp
          exact ⟨_, rfl, rfl, Below.refl _ _⟩
        · intro a' u hS hd
          obtain ⟨_, e0, rfl⟩ := hd 19 (by kernel_rfl)
          have f0 : a'.tmps[31]? = some _ := e0
          clear e0
          clear hd
          have x0 := keep_cell hS.2 q0
          have x1 := keep_cell hS.2 q1
          have x2 := keep_cell hS.2 q2
          have x3 := keep_cell hS.2 q3
          go_simp
          exact ⟨_, rfl, rfl, Below.refl _ _⟩
      · intro a' u h
        obtain ⟨_, e12, rfl⟩ := h.new 0 (by decide) (by decide +kernel)
        replace e12 : a'.tmps[12]? = some (.func (.yield l) #[] #[]) := e12
        obtain ⟨_, e25, rfl⟩ := h.new 13 (by decide) (by decide +kernel)
        replace e25 : a'.tmps[25]? = some (.agg #[.int .i64 ((k : Int) % W), .int .i64 ((k : Int) / W)]) := e25
        obtain ⟨_, e32, rfl⟩ := h.new 20 (by decide) (by decide +kernel)
        replace e32 : a'.tmps[32]? = some (cv.val) := e32
        have e0 : a'.tmps[0]? = some (.func (.yield l) #[] #[]) := h.old 0 (by decide)
        have e1 : a'.tmps[1]? = some (.pointer (some ⟨bx, 0, none⟩)) := h.old 1 (by decide)
        have e2 : a'.tmps[2]? = some (undef) := h.old 2 (by decide)
        have e4 : a'.tmps[4]? = some (.pointer (some ⟨g, 0, none⟩)) := h.old 4 (by decide)
        have e5 : a'.tmps[5]? = some (.int .i64 W) := h.old 5 (by decide)
        have e6 : a'.tmps[6]? = some (.pointer (some ⟨g, 0, none⟩)) := h.old 6 (by decide)
        have e7 : a'.tmps[7]? = some (.int .i64 H) := h.old 7 (by decide)
        have e8 : a'.tmps[8]? = some (.int .i64 (N : Nat)) := h.old 8 (by decide)
        have e9 : a'.tmps[9]? = some (.int .i64 (k : Nat)) := h.old 9 (by decide)
        have hsz : a'.tmps.size = 36 := h.size
        have hdf : a'.defers = [] := h.defers
        have hbu := h.below
        clear h
        obtain ⟨tmps, defers⟩ := a'
        simp only at hsz hdf e0 e1 e2 e4 e5 e6 e7 e8 e9 e12 e25 e32
        subst hdf
        obtain ⟨ll⟩ := tmps
        match ll, hsz with
        | y0 :: y1 :: y2 :: y3 :: y4 :: y5 :: y6 :: y7 :: y8 :: y9 :: y10 :: y11 :: y12 :: y13 :: y14 :: y15 :: y16 :: y17 :: y18 :: y19 :: y20 :: y21 :: y22 :: y23 :: y24 :: y25 :: y26 :: y27 :: y28 :: y29 :: y30 :: y31 :: y32 :: y33 :: y34 :: y35 :: [], _ =>
          obtain rfl : y0 = .func (.yield l) #[] #[] := by simpa using e0
          obtain rfl : y1 = .pointer (some ⟨bx, 0, none⟩) := by simpa using e1
          obtain rfl : y2 = undef := by simpa using e2
          obtain rfl : y4 = .pointer (some ⟨g, 0, none⟩) := by simpa using e4
          obtain rfl : y5 = .int .i64 W := by simpa using e5
          obtain rfl : y6 = .pointer (some ⟨g, 0, none⟩) := by simpa using e6
          obtain rfl : y7 = .int .i64 H := by simpa using e7
          obtain rfl : y8 = .int .i64 (N : Nat) := by simpa using e8
          obtain rfl : y9 = .int .i64 (k : Nat) := by simpa using e9
          obtain rfl : y12 = .func (.yield l) #[] #[] := by simpa using e12
          obtain rfl : y25 = .agg #[.int .i64 ((k : Int) % W), .int .i64 ((k : Int) / W)] := by simpa using e25
          obtain rfl : y32 = cv.val := by simpa using e32
          clear e0 e1 e2 e4 e5 e6 e7 e8 e9 e12 e25 e32
          have HJu := Lib.hid (HD.out _ _ _ HJ.out hbu)
          have HKu := Lib.hid (KeepsL.trans HKL.out (KeepsL.below HLT.out hbu))
          obtain ⟨fn, tm, asg, bd, hy, hR⟩ := hY'.out pre ⟨k, hlt⟩ u HJu.out (by rw [HPK.out]; exact hlt)
          have HYR := Lib.hid hR
          have hen : gridEnc W t (⟨k, hlt⟩ : GIx N) = #[.agg #[.int .i64 ((k : Int) % W), .int .i64 ((k : Int) / W)], cv.val] := by unfold gridEnc; rw [HCV.out]
          rw [hen] at hy
          clear hR hbu HJ HKL kb k0 k2 q0 q1 q2 q3 HTM HTD hen
          gi_wp2
          refine ⟨fun h => by simp [Fence.wide] at h, ?_⟩
          refine HYR.out.mono ?_
          rintro e W3 (⟨rfl, hJ3, hk3⟩ | ⟨rfl, hJx3⟩)
          · have HJ3 := Lib.hid hJ3
            have HK3 := Lib.hid (KeepsL.trans HKu.out hk3)
            clear hJ3 hk3 HYR hy HKu
            have e6 : IntKind.i64.wrap ((k : Int) + 1) = ((k + 1 : Nat) : Int) := IntWalk.i64_in _ (by omega)
            gi_wp2
            go_roundw
            case rel => exact ⟨k + 1, _, congrArg (Value.int .i64) (by omega), by rw [List.length_append, HPK.out]; rfl, hlt, upTo_snoc HUP.out _ HPK.out.symm, HJ3.out, HK3.out⟩
            case measure => simp [intOf]; omega
          · have HX := Lib.hid hJx3
            clear hJx3
            gi_wp2
            refine bodyPost_ret (results_none rfl _ _ _) rfl ?_
            exact ⟨⟨_, rfl⟩, .inr ⟨_, ⟨by rw [List.length_append, HPK.out]; exact hlt, upTo_snoc HUP.out _ HPK.out.symm⟩, HX.out⟩⟩
    · have hkc : k = N := by omega
      have HKC := Lib.hid hkc
      clear hkc
      gi_wp2
      go_end0
      exact ⟨⟨_, rfl⟩, .inl ⟨pre, ⟨by rw [HPK.out, HKC.out], HUP.out⟩, HJ.out⟩⟩
set_option maxRecDepth 100000 in
/-- Grid.All: the receiver is boxed; the function's value captures the box -/
theorem all_any (g : Nat) (w : World) :
    Calls Tryz.prog 35 #[.pointer (some ⟨g, 0, none⟩)] w fun e w' => e = .returned (.func (.func 67) #[] #[.pointer (some ⟨w.heap.size, 0, none⟩)]) ∧
      w' = w.alloc (.cells #[.pointer (some ⟨g, 0, none⟩)] 70) := by
  go_enter Tryz.func35, Tryz.ntmps35
  go_wp2
  go_ret
  exact ⟨rfl, rfl⟩
/-- WHAT Grid.All HANDS BACK -/
theorem all_stops (n bx g cb cc N : Nat) (W H : Int) (t : List C4) (hN : t.length = N) (hNW : (N : Int) = W * H) (hW1 : 1 ≤ W) (hN6 : N ≤ 65536)
    (w : World) (hb : w.heap[bx]? = some (.cells #[.pointer (some ⟨g, 0, none⟩)] 70 (0, 0))) (base : Nat) (hg : GridAt base w g W H t cb cc) :
    SeqStopsK Fence.wide n Tryz.prog 67 #[.pointer (some ⟨bx, 0, none⟩)] (fun x : GIx N => gridEnc W t x) (KeepsL [bx, g, cb]) (fun ys => ys.length = N ∧ upTo ys) (fun pre => pre.length ≤ N ∧ upTo pre) N w := fun l J Jx W' hW hJ _ hY h0 =>
  all1_in n l bx g cb cc N W H t hN hNW hW1 hN6 J Jx (fun pre A B h hbl => hJ pre A B none h (grown_of_below hbl) (fun r e => by cases e)) hY W' ((hW.block _ (block_lt hb)).trans hb) base (hg.below hW) h0
end Go.Proofs.YtioeifbobhdccaaGreatDoor
