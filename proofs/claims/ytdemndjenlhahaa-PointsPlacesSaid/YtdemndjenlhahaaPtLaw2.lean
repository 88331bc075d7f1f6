/- The law PointsPlaces, walked. -/
import Derived.Test.YtdemndjenlhahaaPtLaw1
import Derived.Test.YtdemndjenlhahaaRegionStore
namespace Go.Proofs.Ytdemndjenlhahaa
open Go.RowKit Go.Sort Go.ChangeShapes Go.WideShapes

theorem pm.res_place {k : Nat} (hk : k < 18) (a : List Int) (c : C4) (x y w x' y' w' : Int) : pm.res k a c x y w = pm.res k a c x' y' w' := by
  match k, hk with
  | 0, _ => rfl
  | 1, _ => rfl
  | 2, _ => rfl
  | 3, _ => rfl
  | 4, _ => rfl
  | 5, _ => rfl
  | 6, _ => rfl
  | 7, _ => rfl
  | 8, _ => rfl
  | 9, _ => rfl
  | 10, _ => rfl
  | 11, _ => rfl
  | 12, _ => rfl
  | 13, _ => rfl
  | 14, _ => rfl
  | 15, _ => rfl
  | 16, _ => rfl
  | 17, _ => rfl
  | n + 18, h => exact absurd h (by omega)
theorem one_place {op : ByteArray} (hp : ∀ k, pm.idx op = some k → k < 18) (a : List Int) (c : C4) {x y wd : Int} (hx : 0 ≤ x) (hy : 0 ≤ y) (hw : x < wd) : oneErr op a 0 0 1 = oneErr op a x y wd ∧ oneRes op a c 0 0 1 = oneRes op a c x y wd := by
  have e1 : oneErr op a 0 0 1 = pm.errOf op a := if_neg (by omega)
  have e2 : oneErr op a x y wd = pm.errOf op a := if_neg (by omega)
  refine ⟨e1.trans e2.symm, ?_⟩
  unfold oneRes
  rw [e1, e2]
  cases hi : pm.idx op with
  | none => rfl
  | some k => simp only; rw [pm.res_place (hp k hi) a c 0 0 1 x y wd]

/-- a list of integers that can be read -/
def IntsR (n : Nat) (l : List Int) (v : Value) (w : World) : Prop := ∃ g cap, v = .slice (some ⟨g, 0, none⟩) n cap ∧ Sl .i64 w (some ⟨g, 0, none⟩) n cap l
theorem IntsR.below {n : Nat} {l : List Int} {v : Value} {w w' : World} (h : IntsR n l v w) (hb : Below w.heap.size w w') : IntsR n l v w' := by
  obtain ⟨g, cap, h1, h2⟩ := h
  exact ⟨g, cap, h1, h2.below hb⟩
/-- a new variable of a colour -/
def NewCol (base : Nat) (v : Value) (w : World) : Prop := ∃ g, v = .pointer (some ⟨g, 0, none⟩) ∧ base ≤ g ∧ w.heap[g]? = some (.cells #[.int .u16 0, .int .u16 0, .int .u16 0, .int .u16 0] 33 (0, 0))
theorem NewCol.below {base : Nat} {v : Value} {w w' : World} (h : NewCol base v w) (hb : Below w.heap.size w w') : NewCol base v w' := by
  obtain ⟨g, h1, h2, h3⟩ := h
  exact ⟨g, h1, h2, (hb.block _ (block_lt h3)).trans h3⟩

/-- a variable that holds a colour -/
def ColAt (base : Nat) (c : C4) (v : Value) (w : World) : Prop := ∃ g, v = .pointer (some ⟨g, 0, none⟩) ∧ base ≤ g ∧ w.heap[g]? = some (.cells #[.int .u16 c.r, .int .u16 c.g, .int .u16 c.b, .int .u16 c.a] 33 (0, 0))
theorem ColAt.below {base : Nat} {c : C4} {v : Value} {w w' : World} (h : ColAt base c v w) (hb : Below w.heap.size w w') : ColAt base c v w' := by
  obtain ⟨g, h1, h2, h3⟩ := h
  exact ⟨g, h1, h2, (hb.block _ (block_lt h3)).trans h3⟩

set_option maxRecDepth 100000 in
set_option maxHeartbeats 3200000 in
theorem pointsPlaces_walk (op : ByteArray) (a : Option Addr) (n cap : Nat) (l : List Int) (c : C4) (x y wd : Int) (W : World) (s : Sl .i64 W a n cap l) (z : cap * Try.prog.bytesOf 3 ≤ reachBytes) (hc : c.ok) :
    Calls Try.prog 4 #[.string op, .slice a n cap, .agg #[.int .u16 c.r, .int .u16 c.g, .int .u16 c.b, .int .u16 c.a, .int .i64 x, .int .i64 y, .int .i64 wd]] W fun e w' => e = .returned (.bool true) ∧ Below W.heap.size W w' := by
  have z' := reach_int z
  have hn8 : n * 8 ≤ 140737488355328 := by have := s.fits; omega
  have HA := Lib.hid s
  have HC := Lib.hid hc
  clear s z z' hc
  go_enter Try.func4, Try.ntmps4
  go_wp2_with fail
  have B0 := Lib.hid ((Below.refl W.heap.size W).alloc (Nat.le_refl _) (.cells #[.int .u16 c.r, .int .u16 c.g, .int .u16 c.b, .int .u16 c.a, .int .i64 x, .int .i64 y, .int .i64 wd] 35))
  have Q0 := Lib.hid (heap_alloc_last W (.cells #[.int .u16 c.r, .int .u16 c.g, .int .u16 c.b, .int .u16 c.a, .int .i64 x, .int .i64 y, .int .i64 wd] 35))
  generalize W.alloc (.cells #[.int .u16 c.r, .int .u16 c.g, .int .u16 c.b, .int .u16 c.a, .int .i64 x, .int .i64 y, .int .i64 wd] 35) = w0 at *
  refine (wakes_any _).mono ?_
  rintro e w1 ⟨rfl, hb1⟩
  have B1 := Lib.hid (B0.out.trans (hb1.mono B0.out.size))
  have Q1 := Lib.hid ((hb1.block _ (block_lt Q0.out)).trans Q0.out)
  clear hb1
  have k0 : w1.cell? ⟨W.heap.size, 0, none⟩ = some (.int .u16 c.r) := (cell_of_row _ _ 0 _ _ (0, 0) Q1.out).trans rfl
  have k1 : w1.cell? ⟨W.heap.size, 1, none⟩ = some (.int .u16 c.g) := (cell_of_row _ _ 1 _ _ (0, 0) Q1.out).trans rfl
  have k2 : w1.cell? ⟨W.heap.size, 2, none⟩ = some (.int .u16 c.b) := (cell_of_row _ _ 2 _ _ (0, 0) Q1.out).trans rfl
  have k3 : w1.cell? ⟨W.heap.size, 3, none⟩ = some (.int .u16 c.a) := (cell_of_row _ _ 3 _ _ (0, 0) Q1.out).trans rfl
  have k4 : w1.cell? ⟨W.heap.size, 4, none⟩ = some (.int .i64 x) := (cell_of_row _ _ 4 _ _ (0, 0) Q1.out).trans rfl
  have k5 : w1.cell? ⟨W.heap.size, 5, none⟩ = some (.int .i64 y) := (cell_of_row _ _ 5 _ _ (0, 0) Q1.out).trans rfl
  have k6 : w1.cell? ⟨W.heap.size, 6, none⟩ = some (.int .i64 wd) := (cell_of_row _ _ 6 _ _ (0, 0) Q1.out).trans rfl
  by_cases h18 : pm.nm 18 = op
  · subst h18
    have s1 : ((pm.nm 18).toList == [99, 104, 101, 99, 107, 101, 114]) = true := by rw [ByteArray.toList_eq]; decide +kernel
    have s1' : ((pm.nm 18).toList = [99, 104, 101, 99, 107, 101, 114]) = True := eq_true (by rw [ByteArray.toList_eq]; decide +kernel)
    go_wp2_with fail
    go_ret
    exact ⟨rfl, B1.out⟩
  · have s1' : (op.toList = [99, 104, 101, 99, 107, 101, 114]) = False := eq_false (nm_apart (Ne.symm h18))
    have s1 : (op.toList == [99, 104, 101, 99, 107, 101, 114]) = false := beq_eq_false_iff_ne.2 (of_eq_false s1')
    by_cases h19 : pm.nm 19 = op
    · subst h19
      have s2 : ((pm.nm 19).toList == [102, 97, 100, 101]) = true := by rw [ByteArray.toList_eq]; decide +kernel
      have s2' : ((pm.nm 19).toList = [102, 97, 100, 101]) = True := eq_true (by rw [ByteArray.toList_eq]; decide +kernel)
      clear h18
      go_wp2_with fail
      go_ret
      exact ⟨rfl, B1.out⟩
    · have s2' : (op.toList = [102, 97, 100, 101]) = False := eq_false (nm_apart (Ne.symm h19))
      have s2 : (op.toList == [102, 97, 100, 101]) = false := beq_eq_false_iff_ne.2 (of_eq_false s2')
      have HP : Hid (∀ k, pm.idx op = some k → k < 18) := Lib.hid (fun k hk => by
        obtain ⟨h1, h2⟩ := pm.idx_some hk
        rcases Nat.lt_or_ge k 18 with h | h
        · exact h
        · rcases (show k = 18 ∨ k = 19 by omega) with rfl | rfl
          · exact absurd h2.symm h18
          · exact absurd h2.symm h19)
      clear h18 h19
      by_cases hbad : x < 0 ∨ y < 0 ∨ wd ≤ x
      · rcases (show x < 0 ∨ (0 ≤ x ∧ y < 0) ∨ (0 ≤ x ∧ 0 ≤ y ∧ wd ≤ x) by omega) with h | ⟨h, h'⟩ | ⟨h, h', h''⟩
        all_goals
          clear hbad
          go_wp2_with fail
          go_ret
          exact ⟨rfl, B1.out⟩
      · have hx0 : 0 ≤ x := by omega
        have hy0 : 0 ≤ y := by omega
        have hw0 : x < wd := by omega
        have HE := Lib.hid (one_place HP.out l c hx0 hy0 hw0)
        clear hbad
        go_wp2_with fail
        have HA1 := Lib.hid (HA.out.below B1.out)
        clear s1 s1' s2 s2' hx0 hy0 hw0
        -- region 5
        refine wp_region_store (D := fun i => ([37, 38, 39, 40, 41, 42, 43, 44, 45, 46, 47, 48, 36, 49, 50, 7, 0, 8] : List Nat).getD i 0)
          (R := fun i v w' => match i with
                      | 0 => v = .string op
                      | 1 => v = .slice a n cap
                      | 2 => IntsR n l v w'
                      | 3 => v = .pointer (some ⟨W.heap.size, 0, none⟩)
                      | 4 => v = .agg #[.int .u16 c.r, .int .u16 c.g, .int .u16 c.b, .int .u16 c.a]
                      | 5 => v = .pointer (some ⟨W.heap.size, 4, none⟩)
                      | 6 => v = .int .i64 x
                      | 7 => v = .pointer (some ⟨W.heap.size, 5, none⟩)
                      | 8 => v = .int .i64 y
                      | 9 => v = .pointer (some ⟨W.heap.size, 6, none⟩)
                      | 10 => v = .int .i64 wd
                      | 11 => v = .tuple #[(oneRes op l c x y wd).val, .int .i64 (oneErr op l x y wd)]
                      | 12 => v = .tuple #[(oneRes op l c x y wd).val, .int .i64 (oneErr op l x y wd)]
                      | 13 => v = (oneRes op l c x y wd).val
                      | 14 => v = .int .i64 (oneErr op l x y wd)
                      | 15 => NewCol w1.heap.size v w'
                      | 16 => True
                      | 17 => v = .int .i64 (oneErr op l x y wd)
                      | _ => True)
          (R' := fun i v w' => match i with
                      | 12 => v = .tuple #[(oneRes op l c x y wd).val, .int .i64 (oneErr op l x y wd)]
                      | 14 => v = .int .i64 (oneErr op l x y wd)
                      | 15 => ColAt w1.heap.size (oneRes op l c x y wd) v w'
                      | 17 => v = .int .i64 (oneErr op l x y wd)
                      | _ => True)
          (S := fun a' w' => (a'.tmps[0]? = some (.string op) ∧ a'.tmps[1]? = some (.slice a n cap) ∧ a'.tmps[5]? = some (.pointer (some ⟨W.heap.size, 0, none⟩))) ∧ Below w1.heap.size w1 w')
          16 [14, 17] (by decide) (by kernel_rfl) (by decide +kernel) (by kernel_rfl) (by decide +kernel) (by show 0 < 68; decide) (fun _ _ => trivial) ?_ ?_ ?_ ?_ ?_ ?_ ?_
        · intro i v u u' h hb
          match i, h with
          | 0, h => exact h
          | 1, h => exact h
          | 2, h => exact IntsR.below h hb
          | 3, h => exact h
          | 4, h => exact h
          | 5, h => exact h
          | 6, h => exact h
          | 7, h => exact h
          | 8, h => exact h
          | 9, h => exact h
          | 10, h => exact h
          | 11, h => exact h
          | 12, h => exact h
          | 13, h => exact h
          | 14, h => exact h
          | 15, h => exact NewCol.below h hb
          | 16, h => exact h
          | 17, h => exact h
          | i + 18, _ => trivial
        · intro i v u u' h hb
          match i, h with
          | 0, h => exact trivial
          | 1, h => exact trivial
          | 2, h => exact trivial
          | 3, h => exact trivial
          | 4, h => exact trivial
          | 5, h => exact trivial
          | 6, h => exact trivial
          | 7, h => exact trivial
          | 8, h => exact trivial
          | 9, h => exact trivial
          | 10, h => exact trivial
          | 11, h => exact trivial
          | 12, h => exact h
          | 13, h => exact trivial
          | 14, h => exact h
          | 15, h => exact ColAt.below h hb
          | 16, h => exact trivial
          | 17, h => exact h
          | i + 18, _ => trivial
        · intro a' u hb _ hold
          exact ⟨⟨hold 0 (by decide), hold 1 (by decide), hold 5 (by decide)⟩, hb⟩
        · refine ⟨fun _ => od_move 0 _ rfl (fun a u h => h.1.1) (fun _ => rfl), fun _ => od_move 1 _ rfl (fun a u h => h.1.2.1) (fun _ => rfl), fun _ => ?_, fun _ => ?_, fun _ => ?_, fun _ => ?_, fun _ => ?_, fun _ => ?_, fun _ => ?_, fun _ => ?_, fun _ => ?_, fun _ => ?_, fun _ => od_move_dep 11 48 rfl (by unfold Waits; kernel_rfl) rfl (fun _ _ h => h), fun _ => od_extract 12 36 0 _ _ rfl (by unfold Waits; kernel_rfl) rfl (fun _ _ h => h) rfl (fun _ => rfl), fun _ => od_extract 12 36 1 _ _ rfl (by unfold Waits; kernel_rfl) rfl (fun _ _ h => h) rfl (fun _ => rfl), fun _ => ?_, fun h => absurd rfl h, fun _ => od_assign_dep 14 50 rfl (by unfold Waits; kernel_rfl) rfl (fun _ _ h => h), trivial⟩
          · intro a' u hS hd
            obtain ⟨_, e0, rfl⟩ := hd 1 (by kernel_rfl)
            have e : a'.tmps[38]? = some _ := e0
            clear hd e0
            go_simp
            refine (ownI_any a n cap l _ (HA1.out.below hS.2) hn8).mono ?_
            rintro e w2 ⟨v2, rfl, ⟨g2, cap2, rfl, _, hown2⟩, hb2⟩
            exact ⟨_, rfl, ⟨g2, cap2, rfl, Fresh.sl hown2 HA.out.wf⟩, hb2⟩
          · intro a' u hS hd
            clear hd
            have e := hS.1.2.2
            go_simp
            exact ⟨_, rfl, rfl, Below.refl _ _⟩
          · intro a' u hS hd
            obtain ⟨_, e0, rfl⟩ := hd 3 (by kernel_rfl)
            have e : a'.tmps[40]? = some _ := e0
            clear hd e0
            have x0 := keep_cell hS.2 k0
            have x1 := keep_cell hS.2 k1
            have x2 := keep_cell hS.2 k2
            have x3 := keep_cell hS.2 k3
            go_simp
            exact ⟨_, rfl, rfl, Below.refl _ _⟩
          · intro a' u hS hd
            clear hd
            have e := hS.1.2.2
            go_simp
            exact ⟨_, rfl, rfl, Below.refl _ _⟩
          · intro a' u hS hd
            obtain ⟨_, e0, rfl⟩ := hd 5 (by kernel_rfl)
            have e : a'.tmps[42]? = some _ := e0
            clear hd e0
            have x0 := keep_cell hS.2 k4
            go_simp
            exact ⟨_, rfl, rfl, Below.refl _ _⟩
          · intro a' u hS hd
            clear hd
            have e := hS.1.2.2
            go_simp
            exact ⟨_, rfl, rfl, Below.refl _ _⟩
          · intro a' u hS hd
            obtain ⟨_, e0, rfl⟩ := hd 7 (by kernel_rfl)
            have e : a'.tmps[44]? = some _ := e0
            clear hd e0
            have x0 := keep_cell hS.2 k5
            go_simp
            exact ⟨_, rfl, rfl, Below.refl _ _⟩
          · intro a' u hS hd
            clear hd
            have e := hS.1.2.2
            go_simp
            exact ⟨_, rfl, rfl, Below.refl _ _⟩
          · intro a' u hS hd
            obtain ⟨_, e0, rfl⟩ := hd 9 (by kernel_rfl)
            have e : a'.tmps[46]? = some _ := e0
            clear hd e0
            have x0 := keep_cell hS.2 k6
            go_simp
            exact ⟨_, rfl, rfl, Below.refl _ _⟩
          · intro a' u hS hd
            obtain ⟨_, e0, rfl⟩ := hd 0 (by kernel_rfl)
            have f0 : a'.tmps[37]? = some _ := e0
            clear e0
            obtain ⟨_, e1, g2, cap2, rfl, HI2⟩ := hd 2 (by kernel_rfl)
            have f1 : a'.tmps[39]? = some _ := e1
            clear e1
            obtain ⟨_, e2, rfl⟩ := hd 4 (by kernel_rfl)
            have f2 : a'.tmps[41]? = some _ := e2
            clear e2
            obtain ⟨_, e3, rfl⟩ := hd 6 (by kernel_rfl)
            have f3 : a'.tmps[43]? = some _ := e3
            clear e3
            obtain ⟨_, e4, rfl⟩ := hd 8 (by kernel_rfl)
            have f4 : a'.tmps[45]? = some _ := e4
            clear e4
            obtain ⟨_, e5, rfl⟩ := hd 10 (by kernel_rfl)
            have f5 : a'.tmps[47]? = some _ := e5
            clear e5
            have HI2 := Lib.hid HI2
            clear hd
            go_simp
            refine (one_any op _ n cap2 l c x y wd _ HI2.out HC.out HP.out).mono ?_
            rintro e w3 ⟨rfl, hb3⟩
            exact ⟨_, rfl, rfl, hb3⟩
          · intro a' u hS hd
            clear hd
            have hsz := hS.2.size
            go_simp
            exact ⟨_, rfl, ⟨_, rfl, hsz, heap_alloc_last _ _⟩, (Below.refl _ _).alloc (Nat.le_refl _) _⟩
        · exact ⟨fun h => absurd h (by decide), fun h => absurd h (by decide), fun h => absurd h (by decide), fun h => absurd h (by decide), fun h => absurd h (by decide), fun h => absurd h (by decide), fun h => absurd h (by decide), fun h => absurd h (by decide), fun h => absurd h (by decide), fun h => absurd h (by decide), fun h => absurd h (by decide), fun h => absurd h (by decide), fun h => absurd h (by decide), fun h => absurd h (by decide), fun _ => od_extract 12 36 1 _ _ rfl (by unfold Waits; kernel_rfl) rfl (fun _ _ h => h) rfl (fun _ => rfl), fun h => absurd h (by decide), fun h => absurd h (by decide), fun _ => od_assign_dep 14 50 rfl (by unfold Waits; kernel_rfl) rfl (fun _ _ h => h), trivial⟩
        · intro o a' u ho hS hd
          cases ho
          obtain ⟨_, e13, rfl⟩ := hd 13 (by decide) (by unfold Waits; kernel_rfl)
          obtain ⟨_, e15, g, rfl, hg, hh⟩ := hd 15 (by decide) (by unfold Waits; kernel_rfl)
          refine wp_store_row _ _ _ rfl g _ (eval_tmp (t := 7) e15) (eval_tmp (t := 49) e13) 33 _ hh colSize rfl (by simp [Value.oneCell']) ⟨rfl, below_setRow (Below.refl _ _) hg _, fun i v hi hv hR => ?_⟩
          match i, hR with
          | 0, h => trivial
          | 1, h => trivial
          | 2, h => trivial
          | 3, h => trivial
          | 4, h => trivial
          | 5, h => trivial
          | 6, h => trivial
          | 7, h => trivial
          | 8, h => trivial
          | 9, h => trivial
          | 10, h => trivial
          | 11, h => trivial
          | 12, h => exact h
          | 13, h => trivial
          | 14, h => exact h
          | 15, h => exact ⟨g, Option.some.inj (hv.symm.trans e15), hg, setRow_heap u g _ _ _ _ hh⟩
          | 16, h => trivial
          | 17, h => exact h
          | i + 18, _ => trivial
        · intro a' w5 h
          obtain ⟨_, e8, rfl⟩ := h.new 17 (by decide) (by decide) (by decide +kernel)
          obtain ⟨_, e7, g, rfl, hg, hh⟩ := h.new 15 (by decide) (by decide) (by decide +kernel)
          have e0 : a'.tmps[0]? = some (.string op) := h.old 0 (by decide)
          have e1 : a'.tmps[1]? = some (.slice a n cap) := h.old 1 (by decide)
          have e5 : a'.tmps[5]? = some (.pointer (some ⟨W.heap.size, 0, none⟩)) := h.old 5 (by decide)
          have e6 : a'.tmps[6]? = some (.bool false) := h.old 6 (by decide)
          replace e7 : a'.tmps[7]? = some (.pointer (some ⟨g, 0, none⟩)) := e7
          replace e8 : a'.tmps[8]? = some (.int .i64 (oneErr op l x y wd)) := e8
          have hsz : a'.tmps.size = 68 := h.size
          have hdf : a'.defers = [] := h.defers
          have B5 := Lib.hid (B1.out.trans (h.below.mono B1.out.size))
          have G5 := Lib.hid hh
          replace k0 := keep_cell h.below k0
          replace k1 := keep_cell h.below k1
          replace k2 := keep_cell h.below k2
          replace k3 := keep_cell h.below k3
          replace HA1 := Lib.hid (HA1.out.below h.below)
          clear h hg hh k4 k5 k6 Q1
          obtain ⟨tmps, defers⟩ := a'
          simp only at hsz hdf e0 e1 e5 e6 e7 e8
          subst hdf
          obtain ⟨ll⟩ := tmps
          match ll, hsz with
          | y0 :: y1 :: y2 :: y3 :: y4 :: y5 :: y6 :: y7 :: y8 :: y9 :: y10 :: y11 :: y12 :: y13 :: y14 :: y15 :: y16 :: y17 :: y18 :: y19 :: y20 :: y21 :: y22 :: y23 :: y24 :: y25 :: y26 :: y27 :: y28 :: y29 :: y30 :: y31 :: y32 :: y33 :: y34 :: y35 :: y36 :: y37 :: y38 :: y39 :: y40 :: y41 :: y42 :: y43 :: y44 :: y45 :: y46 :: y47 :: y48 :: y49 :: y50 :: y51 :: y52 :: y53 :: y54 :: y55 :: y56 :: y57 :: y58 :: y59 :: y60 :: y61 :: y62 :: y63 :: y64 :: y65 :: y66 :: y67 :: [], _ =>
            obtain rfl : y0 = .string op := by simpa using e0
            obtain rfl : y1 = .slice a n cap := by simpa using e1
            obtain rfl : y5 = .pointer (some ⟨W.heap.size, 0, none⟩) := by simpa using e5
            obtain rfl : y6 = .bool false := by simpa using e6
            obtain rfl : y7 = .pointer (some ⟨g, 0, none⟩) := by simpa using e7
            obtain rfl : y8 = .int .i64 (oneErr op l x y wd) := by simpa using e8
            clear e0 e1 e5 e6 e7 e8
            go_wp2_with fail
            refine wp_region_store (D := fun i => ([52, 53, 54, 55, 56, 57, 51, 58, 59, 9, 0, 10] : List Nat).getD i 0)
              (R := fun i v w' => match i with
                          | 0 => v = .string op
                          | 1 => v = .slice a n cap
                          | 2 => IntsR n l v w'
                          | 3 => v = .pointer (some ⟨W.heap.size, 0, none⟩)
                          | 4 => v = .agg #[.int .u16 c.r, .int .u16 c.g, .int .u16 c.b, .int .u16 c.a]
                          | 5 => v = .tuple #[(oneRes op l c 0 0 1).val, .int .i64 (oneErr op l 0 0 1)]
                          | 6 => v = .tuple #[(oneRes op l c 0 0 1).val, .int .i64 (oneErr op l 0 0 1)]
                          | 7 => v = (oneRes op l c 0 0 1).val
                          | 8 => v = .int .i64 (oneErr op l 0 0 1)
                          | 9 => NewCol w5.heap.size v w'
                          | 10 => True
                          | 11 => v = .int .i64 (oneErr op l 0 0 1)
                          | _ => True)
              (R' := fun i v w' => match i with
                          | 6 => v = .tuple #[(oneRes op l c 0 0 1).val, .int .i64 (oneErr op l 0 0 1)]
                          | 8 => v = .int .i64 (oneErr op l 0 0 1)
                          | 9 => ColAt w5.heap.size (oneRes op l c 0 0 1) v w'
                          | 11 => v = .int .i64 (oneErr op l 0 0 1)
                          | _ => True)
              (S := fun a' w' => (a'.tmps[0]? = some (.string op) ∧ a'.tmps[1]? = some (.slice a n cap) ∧ a'.tmps[5]? = some (.pointer (some ⟨W.heap.size, 0, none⟩))) ∧ Below w5.heap.size w5 w')
              10 [8, 11] (by decide) (by kernel_rfl) (by decide +kernel) (by kernel_rfl) (by decide +kernel) (by show 0 < 68; decide) (fun _ _ => trivial) ?_ ?_ ?_ ?_ ?_ ?_ ?_
            · intro i v u u' h hb
              match i, h with
              | 0, h => exact h
              | 1, h => exact h
              | 2, h => exact IntsR.below h hb
              | 3, h => exact h
              | 4, h => exact h
              | 5, h => exact h
              | 6, h => exact h
              | 7, h => exact h
              | 8, h => exact h
              | 9, h => exact NewCol.below h hb
              | 10, h => exact h
              | 11, h => exact h
              | i + 12, _ => trivial
            · intro i v u u' h hb
              match i, h with
              | 0, h => exact trivial
              | 1, h => exact trivial
              | 2, h => exact trivial
              | 3, h => exact trivial
              | 4, h => exact trivial
              | 5, h => exact trivial
              | 6, h => exact h
              | 7, h => exact trivial
              | 8, h => exact h
              | 9, h => exact ColAt.below h hb
              | 10, h => exact trivial
              | 11, h => exact h
              | i + 12, _ => trivial
            · intro a' u hb _ hold
              exact ⟨⟨hold 0 (by decide), hold 1 (by decide), hold 5 (by decide)⟩, hb⟩
            · refine ⟨fun _ => od_move 0 _ rfl (fun a u h => h.1.1) (fun _ => rfl), fun _ => od_move 1 _ rfl (fun a u h => h.1.2.1) (fun _ => rfl), fun _ => ?_, fun _ => ?_, fun _ => ?_, fun _ => ?_, fun _ => od_move_dep 5 57 rfl (by unfold Waits; kernel_rfl) rfl (fun _ _ h => h), fun _ => od_extract 6 51 0 _ _ rfl (by unfold Waits; kernel_rfl) rfl (fun _ _ h => h) rfl (fun _ => rfl), fun _ => od_extract 6 51 1 _ _ rfl (by unfold Waits; kernel_rfl) rfl (fun _ _ h => h) rfl (fun _ => rfl), fun _ => ?_, fun h => absurd rfl h, fun _ => od_assign_dep 8 59 rfl (by unfold Waits; kernel_rfl) rfl (fun _ _ h => h), trivial⟩
              · intro a' u hS hd
                obtain ⟨_, e0, rfl⟩ := hd 1 (by kernel_rfl)
                have e : a'.tmps[53]? = some _ := e0
                clear hd e0
                go_simp
                refine (ownI_any a n cap l _ (HA1.out.below hS.2) hn8).mono ?_
                rintro e w2 ⟨v2, rfl, ⟨g2, cap2, rfl, _, hown2⟩, hb2⟩
                exact ⟨_, rfl, ⟨g2, cap2, rfl, Fresh.sl hown2 HA.out.wf⟩, hb2⟩
              · intro a' u hS hd
                clear hd
                have e := hS.1.2.2
                go_simp
                exact ⟨_, rfl, rfl, Below.refl _ _⟩
              · intro a' u hS hd
                obtain ⟨_, e0, rfl⟩ := hd 3 (by kernel_rfl)
                have e : a'.tmps[55]? = some _ := e0
                clear hd e0
                have x0 := keep_cell hS.2 k0
                have x1 := keep_cell hS.2 k1
                have x2 := keep_cell hS.2 k2
                have x3 := keep_cell hS.2 k3
                go_simp
                exact ⟨_, rfl, rfl, Below.refl _ _⟩
              · intro a' u hS hd
                obtain ⟨_, e0, rfl⟩ := hd 0 (by kernel_rfl)
                have f0 : a'.tmps[52]? = some _ := e0
                clear e0
                obtain ⟨_, e1, g2, cap2, rfl, HI2⟩ := hd 2 (by kernel_rfl)
                have f1 : a'.tmps[54]? = some _ := e1
                clear e1
                obtain ⟨_, e2, rfl⟩ := hd 4 (by kernel_rfl)
                have f2 : a'.tmps[56]? = some _ := e2
                clear e2
                have HI2 := Lib.hid HI2
                clear hd
                go_simp
                refine (one_any op _ n cap2 l c 0 0 1 _ HI2.out HC.out HP.out).mono ?_
                rintro e w3 ⟨rfl, hb3⟩
                exact ⟨_, rfl, rfl, hb3⟩
              · intro a' u hS hd
                clear hd
                have hsz := hS.2.size
                go_simp
                exact ⟨_, rfl, ⟨_, rfl, hsz, heap_alloc_last _ _⟩, (Below.refl _ _).alloc (Nat.le_refl _) _⟩
            · exact ⟨fun h => absurd h (by decide), fun h => absurd h (by decide), fun h => absurd h (by decide), fun h => absurd h (by decide), fun h => absurd h (by decide), fun h => absurd h (by decide), fun h => absurd h (by decide), fun h => absurd h (by decide), fun _ => od_extract 6 51 1 _ _ rfl (by unfold Waits; kernel_rfl) rfl (fun _ _ h => h) rfl (fun _ => rfl), fun h => absurd h (by decide), fun h => absurd h (by decide), fun _ => od_assign_dep 8 59 rfl (by unfold Waits; kernel_rfl) rfl (fun _ _ h => h), trivial⟩
            · intro o a' u ho hS hd
              cases ho
              obtain ⟨_, e13, rfl⟩ := hd 7 (by decide) (by unfold Waits; kernel_rfl)
              obtain ⟨_, e15, g, rfl, hg, hh⟩ := hd 9 (by decide) (by unfold Waits; kernel_rfl)
              refine wp_store_row _ _ _ rfl g _ (eval_tmp (t := 9) e15) (eval_tmp (t := 58) e13) 33 _ hh colSize rfl (by simp [Value.oneCell']) ⟨rfl, below_setRow (Below.refl _ _) hg _, fun i v hi hv hR => ?_⟩
              match i, hR with
              | 0, h => trivial
              | 1, h => trivial
              | 2, h => trivial
              | 3, h => trivial
              | 4, h => trivial
              | 5, h => trivial
              | 6, h => exact h
              | 7, h => trivial
              | 8, h => exact h
              | 9, h => exact ⟨g, Option.some.inj (hv.symm.trans e15), hg, setRow_heap u g _ _ _ _ hh⟩
              | 10, h => trivial
              | 11, h => exact h
              | i + 12, _ => trivial
            · intro a' w7 h
              obtain ⟨_, e10, rfl⟩ := h.new 11 (by decide) (by decide) (by decide +kernel)
              obtain ⟨_, e9, g9, rfl, hg, hh⟩ := h.new 9 (by decide) (by decide) (by decide +kernel)
              have e6 : a'.tmps[6]? = some (.bool false) := h.old 6 (by decide)
              have e7 : a'.tmps[7]? = some (.pointer (some ⟨g, 0, none⟩)) := h.old 7 (by decide)
              have e8 : a'.tmps[8]? = some (.int .i64 (oneErr op l x y wd)) := h.old 8 (by decide)
              replace e9 : a'.tmps[9]? = some (.pointer (some ⟨g9, 0, none⟩)) := e9
              replace e10 : a'.tmps[10]? = some (.int .i64 (oneErr op l 0 0 1)) := e10
              rw [HE.out.1] at e10
              rw [HE.out.2] at hh
              have hsz : a'.tmps.size = 68 := h.size
              have hdf : a'.defers = [] := h.defers
              have B7 := Lib.hid (B5.out.trans (h.below.mono B5.out.size))
              have G7 := Lib.hid ((h.below.block _ (block_lt G5.out)).trans G5.out)
              have G9 := Lib.hid hh
              clear h hg hh k0 k1 k2 k3 G5 HA1
              generalize oneRes op l c x y wd = rc at *
              have q0 := ((cell_of_row w7 g 0 _ _ (0, 0) G7.out).trans rfl)
              have q1 := ((cell_of_row w7 g 1 _ _ (0, 0) G7.out).trans rfl)
              have q2 := ((cell_of_row w7 g 2 _ _ (0, 0) G7.out).trans rfl)
              have q3 := ((cell_of_row w7 g 3 _ _ (0, 0) G7.out).trans rfl)
              have p0 := ((cell_of_row w7 g9 0 _ _ (0, 0) G9.out).trans rfl)
              have p1 := ((cell_of_row w7 g9 1 _ _ (0, 0) G9.out).trans rfl)
              have p2 := ((cell_of_row w7 g9 2 _ _ (0, 0) G9.out).trans rfl)
              have p3 := ((cell_of_row w7 g9 3 _ _ (0, 0) G9.out).trans rfl)
              obtain ⟨tmps, defers⟩ := a'
              simp only at hsz hdf e6 e7 e8 e9 e10
              subst hdf
              obtain ⟨ll⟩ := tmps
              match ll, hsz with
              | y0 :: y1 :: y2 :: y3 :: y4 :: y5 :: y6 :: y7 :: y8 :: y9 :: y10 :: y11 :: y12 :: y13 :: y14 :: y15 :: y16 :: y17 :: y18 :: y19 :: y20 :: y21 :: y22 :: y23 :: y24 :: y25 :: y26 :: y27 :: y28 :: y29 :: y30 :: y31 :: y32 :: y33 :: y34 :: y35 :: y36 :: y37 :: y38 :: y39 :: y40 :: y41 :: y42 :: y43 :: y44 :: y45 :: y46 :: y47 :: y48 :: y49 :: y50 :: y51 :: y52 :: y53 :: y54 :: y55 :: y56 :: y57 :: y58 :: y59 :: y60 :: y61 :: y62 :: y63 :: y64 :: y65 :: y66 :: y67 :: [], _ =>
                obtain rfl : y6 = .bool false := by simpa using e6
                obtain rfl : y7 = .pointer (some ⟨g, 0, none⟩) := by simpa using e7
                obtain rfl : y8 = .int .i64 (oneErr op l x y wd) := by simpa using e8
                obtain rfl : y9 = .pointer (some ⟨g9, 0, none⟩) := by simpa using e9
                obtain rfl : y10 = .int .i64 (oneErr op l x y wd) := by simpa using e10
                clear e6 e7 e8 e9 e10
                generalize oneErr op l x y wd = er at *
                go_wp2_with fail
                go_ret
                exact ⟨by simp, B7.out⟩
end Go.Proofs.Ytdemndjenlhahaa
