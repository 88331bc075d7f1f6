/- The reference's Apply. -/
import Derived.Test.YtdemndjenlhahaaRefOne
import Derived.Test.YtdemndjenlhahaaRegionStore
namespace Go.Proofs.Ytdemndjenlhahaa
open Go.RowKit Go.Sort

/-- a variable that holds a colour -/
def ColRow (base : Nat) (c : C4) (v : Value) (w : World) : Prop := ∃ g, v = .pointer (some ⟨g, 0, none⟩) ∧ base ≤ g ∧ w.heap[g]? = some (.cells #[.int .u16 c.r, .int .u16 c.g, .int .u16 c.b, .int .u16 c.a] 33)
theorem ColRow.below {base : Nat} {c : C4} {v : Value} {w w' : World} (h : ColRow base c v w) (hb : Below w.heap.size w w') : ColRow base c v w' := by
  obtain ⟨g, h1, h2, h3⟩ := h
  exact ⟨g, h1, h2, (hb.block _ (block_lt h3)).trans h3⟩
/-- what the loops hold when cnt pixels are made -/
structure RefI (w3 : World) (k : Nat) (a l : List Int) (W H : Int) (wn cnt : Nat) (wr : World) : Prop where
  out : ∃ p cap, wr.heap[w3.heap.size]? = some (.cells #[.int .i64 W, .int .i64 H, .slice p (4 * cnt) cap] 41) ∧ wr.ownsRow w3.heap.size 31 1 (.slice p (4 * cnt) cap) (4 * cnt) ((pm.out k a l wn cnt).map (Value.int .u16))
  below : Below w3.heap.size w3 wr

theorem refI_step {w3 w6 : World} {k : Nat} {a l : List Int} {W H : Int} {wn cnt g cap n' cap' : Nat} {p' : Option Addr} {rc : C4} (hout : pm.out k a l wn (cnt + 1) = pm.out k a l wn cnt ++ rc.list)
    (ho : w6.heap[w3.heap.size]? = some (.cells #[.int .i64 W, .int .i64 H, .slice p' n' cap'] 41))
    (hr : w6.ownsRow w3.heap.size 31 1 (.slice (some ⟨g, 0, none⟩) (4 * cnt + 4) cap) (4 * cnt + 4) ((pm.out k a l wn cnt).map (Value.int .u16) ++ rc.list.map (Value.int .u16)))
    (hb : Below w3.heap.size w3 w6) : RefI w3 k a l W H wn (cnt + 1) (w6.setRow w3.heap.size #[.int .i64 W, .int .i64 H, .slice (some ⟨g, 0, none⟩) (4 * cnt + 4) cap]) := by
  have hne : g ≠ w3.heap.size := row_not hr ho (by decide)
  refine ⟨⟨some ⟨g, 0, none⟩, cap, ?_, ?_⟩, below_setRow hb (Nat.le_refl _) _⟩
  · exact setRow_heap _ _ _ _ _ _ ho
  · rw [hout, List.map_append]
    exact World.ownsRow.kept hr (grownBy_setRow _ _ _) (.inr (by intro e; exact hne (Option.some.inj e)))

set_option maxRecDepth 100000 in
set_option maxHeartbeats 6400000 in
theorem refapply_any (op : ByteArray) (p : Option Addr) (n cap : Nat) (a : List Int) (W H : Int) (q : Option Addr) (m mcap : Nat) (l : List Int) (w : World) (hA : Sl .i64 w p n cap a) (hn : n ≤ 17592186044416) (hM : Sl .u16 w q m mcap l) :
    Calls Try.prog 17 #[.string op, .slice p n cap, .agg #[.int .i64 W, .int .i64 H, .slice q m mcap]] w (ApplyPost op a W H m l w) := by
  have HA := Lib.hid hA
  have HM := Lib.hid hM
  clear hA hM
  go_enter Try.func17, Try.ntmps17
  go_wp2_with fail
  have HB := Lib.hid (((Below.refl w.heap.size w).alloc (Nat.le_refl _) (.cells #[.int .i64 W, .int .i64 H, .slice q m mcap] 41)).alloc (by simp) (.cells #[.int .i64 0, .int .i64 0, .slice none 0 0] 41))
  obtain ⟨q1, q2⟩ := heap2 w (.cells #[.int .i64 W, .int .i64 H, .slice q m mcap] 41) (.cells #[.int .i64 0, .int .i64 0, .slice none 0 0] 41)
  generalize (w.alloc (.cells #[.int .i64 W, .int .i64 H, .slice q m mcap] 41)).alloc (.cells #[.int .i64 0, .int .i64 0, .slice none 0 0] 41) = w0 at *
  refine (refCheck_any op p n cap a _ (HA.out.below HB.out) hn).mono ?_
  rintro e w1 ⟨rfl, hb⟩
  have Q1 := Lib.hid ((hb.block _ (block_lt q1)).trans q1)
  have Q2 := Lib.hid ((hb.block _ (block_lt q2)).trans q2)
  have HB1 := Lib.hid (HB.out.trans (hb.mono HB.out.size))
  have SZ1 : w.heap.size + 1 < w1.heap.size := block_lt Q2.out
  clear hb q1 q2 HB
  have HE : Hid (pm.applyErr op a W H m = if pm.errOf op a = 0 then (if goodB W H m = true then 0 else 6) else pm.errOf op a) := Lib.hid rfl
  by_cases hE : pm.errOf op a = 0
  · have HE0 := Lib.hid hE
    have HKX : Hid (∃ k, pm.idx op = some k ∧ k < 20 ∧ pm.okA k a) := Lib.hid (by
      unfold pm.errOf at hE
      cases hi : pm.idx op with
      | none => rw [hi] at hE; cases hE
      | some k =>
        rw [hi] at hE
        refine ⟨k, rfl, (pm.idx_some hi).1, ?_⟩
        by_cases hok : pm.okA k a
        · exact hok
        · have : pm.err k a = 190 := if_neg hok
          rw [show pm.err k a = 0 from hE] at this
          cases this)
    rw [hE]
    clear hE
    go_wp2_with (with_reducible refine wpList_load_row rfl 41 _ rfl w.heap.size rfl 41 _ (0, 0) _ Q1.out Try.underlying41 rfl (imgSize3 _ _ _) ?_)
    refine (refGood_any W H q m mcap _).mono ?_
    rintro e w3 ⟨rfl, hb⟩
    have R1 := Lib.hid ((hb.block _ (block_lt Q1.out)).trans Q1.out)
    have R2 := Lib.hid ((hb.block _ (block_lt Q2.out)).trans Q2.out)
    have HB3 := Lib.hid (HB1.out.trans (hb.mono HB1.out.size))
    have SZ3 : w.heap.size + 1 < w3.heap.size := block_lt R2.out
    clear hb Q1 Q2 HB1 SZ1
    by_cases hg : goodB W H m = true
    · rw [hg]
      have HV : Hid (pm.applyErr op a W H m = 0) := Lib.hid (by rw [HE.out, if_pos HE0.out, if_pos hg])
      obtain ⟨g1, g2, g3, g4, g5, g6⟩ := of_decide_eq_true hg
      obtain ⟨wn, hwn⟩ : ∃ x : Nat, W = x := ⟨W.toNat, by omega⟩
      obtain ⟨hn', hhn⟩ : ∃ x : Nat, H = x := ⟨H.toNat, by omega⟩
      have hm4 : m = 4 * (hn' * wn) := by
        rw [hwn, hhn, Int.mul_assoc, ← Int.natCast_mul, Nat.mul_comm] at g6
        omega
      have hkk : hn' * wn ≤ 65536 := by
        rw [hwn, hhn, ← Int.natCast_mul, Nat.mul_comm] at g5
        omega
      have hwn1 : 1 ≤ wn := by omega
      have hwn2 : wn ≤ 4096 := by omega
      have hhn1 : 1 ≤ hn' := by omega
      have hhn2 : hn' ≤ 4096 := by omega
      have HWN := Lib.hid hwn
      have HHN := Lib.hid hhn
      have HM4 := Lib.hid hm4
      have HKK := Lib.hid hkk
      obtain ⟨k, hi, hk, hok⟩ := HKX.out
      have HI := Lib.hid hi
      have HOK := Lib.hid hok
      have c0 := (cell_of_row _ _ 0 _ _ (0, 0) R1.out).trans rfl
      have c1 := (cell_of_row _ _ 1 _ _ (0, 0) R1.out).trans rfl
      clear hg g1 g2 g3 g4 g5 g6 hwn hhn hm4 hkk hi hok HKX
      go_wp2_with (with_reducible refine wpList_store_row rfl 41 _ _ rfl w3.heap.size _ rfl rfl 41 _ (heap_alloc_last _ _) (imgSize3 _ _ _) (imgSz _ _ _ _ _ _) (imgOne _ _ _ _ _) ?_; rw [World.setRow_alloc_new])
      -- the loops
      have A0 : Hid (RefI w3 k a l W H wn (0 * wn) (w3.alloc (.cells #[.int .i64 W, .int .i64 H, .slice none 0 0] 41))) := Lib.hid (by
        rw [Nat.zero_mul]
        exact ⟨⟨none, 0, heap_alloc_last _ _, World.ownsRow_nil _ _ _ _⟩, (Below.refl _ _).alloc (Nat.le_refl _) _⟩)
      generalize w3.alloc (.cells #[.int .i64 W, .int .i64 H, .slice none 0 0] 41) = w4 at *
      clear c0 c1
      go_loopg [10] hn' (fun gk i wr => ∃ y : Nat, y ≤ hn' ∧ gk = hn' - y ∧ i = .int .i64 y ∧ RefI w3 k a l W H wn (y * wn) wr)
      case atStart => exact ⟨0, by omega, rfl, rfl, A0.out⟩
      case round =>
        obtain ⟨y, hy, hgy, rfl, hI⟩ := hrel
        have Hgy := Lib.hid hgy
        have HIy := Lib.hid hI
        clear hgy hI
        have T1 := Lib.hid ((HIy.out.below.block _ (block_lt R1.out)).trans R1.out)
        have c1 := (cell_of_row _ _ 1 _ _ (0, 0) T1.out).trans rfl
        by_cases hyl : y < hn'
        · have hyH : (y : Int) < H := by rw [HHN.out]; omega
          go_wp2_with fail
          clear c1 T1
          go_loopg [11] wn (fun gk i wr => ∃ x : Nat, x ≤ wn ∧ gk = wn - x ∧ i = .int .i64 x ∧ RefI w3 k a l W H wn (y * wn + x) wr)
          case atStart => exact ⟨0, by omega, rfl, rfl, HIy.out⟩
          case round =>
            obtain ⟨x, hx, hgx, rfl, hI⟩ := hrel
            have Hgx := Lib.hid hgx
            have HIr := Lib.hid hI
            clear hgx hI
            have T1 := Lib.hid ((HIr.out.below.block _ (block_lt R1.out)).trans R1.out)
            have c0 := (cell_of_row _ _ 0 _ _ (0, 0) T1.out).trans rfl
            have c1 := (cell_of_row _ _ 1 _ _ (0, 0) T1.out).trans rfl
            by_cases hxl : x < wn
            · have hxW : (x : Int) < W := by rw [HWN.out]; omega
              have hcnt : y * wn + x < hn' * wn := by
                have := Nat.mul_le_mul_right wn (show y + 1 ≤ hn' from hyl)
                rw [Nat.succ_mul] at this
                omega
              have hkk' := HKK.out
              obtain ⟨c, hc⟩ : ∃ c, pix l (y * wn + x) = c := ⟨_, rfl⟩
              obtain ⟨rc, hrc⟩ : ∃ rc, pm.res k a c (x : Int) (y : Int) W = rc := ⟨_, rfl⟩
              have hCok : c.ok := by rw [← hc]; exact HM.out.u16s.pix _
              have B5 := Lib.hid (HB3.out.trans (HIr.out.below.mono HB3.out.size))
              have HPIX : Hid (∀ u, Below wr.heap.size wr u → Calls Try.prog 29 #[.agg #[.int .i64 W, .int .i64 H, .slice q m mcap], .int .i64 (x : Int), .int .i64 (y : Int)] u fun e u' => e = .returned c.val ∧ Below u.heap.size u u') := Lib.hid (fun u hu => by
                have h1 := refpixel_any H wn x y q m mcap l u (HM.out.below (B5.out.trans (hu.mono B5.out.size))) (by have := HM4.out; omega) (by have := HM4.out; omega)
                rw [hc, ← HWN.out] at h1
                exact h1)
              have HONE : Hid (∀ u, Below wr.heap.size wr u → Calls Try.prog 28 #[.string op, .slice p n cap, .agg #[.int .u16 c.r, .int .u16 c.g, .int .u16 c.b, .int .u16 c.a], .int .i64 (x : Int), .int .i64 (y : Int), .int .i64 W] u fun e u' => e = .returned (.tuple #[rc.val, .int .i64 0]) ∧ Below u.heap.size u u') := Lib.hid (fun u hu => by
                have h1 := refOne_any k op HI.out a c (x : Int) (y : Int) W p n cap u HOK.out hCok (HA.out.below (B5.out.trans (hu.mono B5.out.size))) hn (by omega) hxW (by rw [HWN.out]; omega) (by omega) (by omega)
                unfold RefOneP at h1
                rw [hrc] at h1
                exact h1)
              have HOUT : Hid (pm.out k a l wn (y * wn + x + 1) = pm.out k a l wn (y * wn + x) ++ rc.list) := Lib.hid (by
                have e1 : (y * wn + x) % wn = x := by rw [Nat.mul_comm, Nat.mul_add_mod]; exact Nat.mod_eq_of_lt hxl
                have e2 : (y * wn + x) / wn = y := by rw [Nat.mul_comm, Nat.mul_add_div (by omega), Nat.div_eq_of_lt hxl, Nat.add_zero]
                rw [pm.out, e1, e2, hc, ← HWN.out, hrc])
              have HCNT := Lib.hid hcnt
              clear hc hrc hcnt hkk' hCok
              go_wp2_with fail
              refine wp_region_store (D := fun i => ([43, 44, 45, 46, 47, 48, 49, 50, 51, 52, 53, 42, 54, 55, 12, 0, 13] : List Nat).getD i 0)
                (R := fun i v w' => match i with
                    | 0 => v = .string op
                    | 1 => v = .slice p n cap
                    | 2 => v = .agg #[.int .i64 W, .int .i64 H, .slice q m mcap]
                    | 3 => v = .int .i64 (x : Int)
                    | 4 => v = .int .i64 (y : Int)
                    | 5 => v = c.val
                    | 6 => v = .int .i64 (x : Int)
                    | 7 => v = .int .i64 (y : Int)
                    | 8 => v = .pointer (some ⟨w.heap.size, 0, none⟩)
                    | 9 => v = .int .i64 W
                    | 10 => v = .tuple #[rc.val, .int .i64 0]
                    | 11 => v = .tuple #[rc.val, .int .i64 0]
                    | 12 => v = rc.val
                    | 13 => v = .int .i64 0
                    | 14 => NewColA wr.heap.size v w'
                    | 15 => True
                    | 16 => v = .int .i64 0
                    | _ => True)
                (R' := fun i v w' => match i with
                    | 11 => v = .tuple #[rc.val, .int .i64 0]
                    | 13 => v = .int .i64 0
                    | 14 => ColRow wr.heap.size rc v w'
                    | 16 => v = .int .i64 0
                    | _ => True)
                (S := fun a' w' => (a'.tmps[0]? = some (.string op) ∧ a'.tmps[1]? = some (.slice p n cap) ∧ a'.tmps[5]? = some (.pointer (some ⟨w.heap.size, 0, none⟩)) ∧ a'.tmps[10]? = some (.int .i64 (y : Int)) ∧ a'.tmps[11]? = some (.int .i64 (x : Int))) ∧ Below wr.heap.size wr w')
                15 [13, 16] (by decide) (by kernel_rfl) (by decide +kernel) (by kernel_rfl) (by decide +kernel) (by show 0 < 60; decide) (fun _ _ => trivial) ?_ ?_ ?_ ?_ ?_ ?_ ?_
              · intro i v u u' h hb
                match i, h with
                | 0, h => exact h
                | 1, h => exact h
                | 2, h => exact h
                | 3, h => exact h
                | 4, h => exact h
                | 5, h => exact h
                | 6, h => exact h
                | 7, h => exact h
                | 8, h => exact h
                | 9, h => exact h
                | 10, h => exact h
                | 11, h => exact h
                | 12, h => exact h
                | 13, h => exact h
                | 14, h => exact NewColA.below h hb
                | 15, h => exact h
                | 16, h => exact h
                | i + 17, _ => trivial
              · intro i v u u' h hb
                match i, h with
                | 0, h => exact trivial
                | 1, h => exact trivial
                | 2, h => exact trivial
                | 3, h => exact trivial
                | 4, h => exact trivial
                | 5, h => exact trivial
                | 6, h => exact trivial
                | 7, h => exact trivial
                | 8, h => exact trivial
                | 9, h => exact trivial
                | 10, h => exact trivial
                | 11, h => exact h
                | 12, h => exact trivial
                | 13, h => exact h
                | 14, h => exact ColRow.below h hb
                | 15, h => exact trivial
                | 16, h => exact h
                | i + 17, _ => trivial
              · intro a' u hb _ hold
                exact ⟨⟨hold 0 (by decide), hold 1 (by decide), hold 5 (by decide), hold 10 (by decide), hold 11 (by decide)⟩, hb⟩
              · refine ⟨fun _ => od_move 0 _ rfl (fun a u h => h.1.1) (fun _ => rfl), fun _ => od_move 1 _ rfl (fun a u h => h.1.2.1) (fun _ => rfl), fun _ => od_load_row 5 _ _ _ _ _ rfl (fun a u h => ⟨h.1.2.2.1, (h.2.block _ (block_lt T1.out)).trans T1.out⟩) Try.underlying41 rfl imgSize (fun _ => rfl), fun _ => od_move 11 _ rfl (fun a u h => h.1.2.2.2.2) (fun _ => rfl), fun _ => od_move 10 _ rfl (fun a u h => h.1.2.2.2.1) (fun _ => rfl), fun _ => ?_, fun _ => od_move 11 _ rfl (fun a u h => h.1.2.2.2.2) (fun _ => rfl), fun _ => od_move 10 _ rfl (fun a u h => h.1.2.2.2.1) (fun _ => rfl), fun _ => ?_, fun _ => ?_, fun _ => ?_, fun _ => od_move_dep 10 53 rfl (by unfold Waits; kernel_rfl) rfl (fun _ _ h => h), fun _ => od_extract 11 42 0 _ _ rfl (by unfold Waits; kernel_rfl) rfl (fun _ _ h => h) rfl (fun _ => rfl), fun _ => od_extract 11 42 1 _ _ rfl (by unfold Waits; kernel_rfl) rfl (fun _ _ h => h) rfl (fun _ => rfl), fun _ => ?_, fun h => absurd rfl h, fun _ => od_assign_dep 13 55 rfl (by unfold Waits; kernel_rfl) rfl (fun _ _ h => h), trivial⟩
                · intro a' u hS hd
                  obtain ⟨_, e0, rfl⟩ := hd 2 (by kernel_rfl)
                  have f0 : a'.tmps[45]? = some _ := e0
                  clear e0
                  obtain ⟨_, e1, rfl⟩ := hd 3 (by kernel_rfl)
                  have f1 : a'.tmps[46]? = some _ := e1
                  clear e1
                  obtain ⟨_, e2, rfl⟩ := hd 4 (by kernel_rfl)
                  have f2 : a'.tmps[47]? = some _ := e2
                  clear e2
                  clear hd
                  go_simp
                  refine (HPIX.out u hS.2).mono ?_
                  rintro e u' ⟨rfl, hb⟩
                  exact ⟨_, rfl, rfl, hb⟩
                · intro a' u hS hd
                  clear hd
                  have e := hS.1.2.2.1
                  go_simp
                  exact ⟨_, rfl, rfl, Below.refl _ _⟩
                · intro a' u hS hd
                  obtain ⟨_, e0, rfl⟩ := hd 8 (by kernel_rfl)
                  have f0 : a'.tmps[51]? = some _ := e0
                  clear e0
                  clear hd
                  have x0 := keep_cell hS.2 c0
                  go_simp
                  exact ⟨_, rfl, rfl, Below.refl _ _⟩
                · intro a' u hS hd
                  obtain ⟨_, e0, rfl⟩ := hd 0 (by kernel_rfl)
                  have f0 : a'.tmps[43]? = some _ := e0
                  clear e0
                  obtain ⟨_, e1, rfl⟩ := hd 1 (by kernel_rfl)
                  have f1 : a'.tmps[44]? = some _ := e1
                  clear e1
                  obtain ⟨_, e2, rfl⟩ := hd 5 (by kernel_rfl)
                  have f2 : a'.tmps[48]? = some _ := e2
                  clear e2
                  obtain ⟨_, e3, rfl⟩ := hd 6 (by kernel_rfl)
                  have f3 : a'.tmps[49]? = some _ := e3
                  clear e3
                  obtain ⟨_, e4, rfl⟩ := hd 7 (by kernel_rfl)
                  have f4 : a'.tmps[50]? = some _ := e4
                  clear e4
                  obtain ⟨_, e5, rfl⟩ := hd 9 (by kernel_rfl)
                  have f5 : a'.tmps[52]? = some _ := e5
                  clear e5
                  clear hd
                  go_simp
                  refine (HONE.out u hS.2).mono ?_
                  rintro e u' ⟨rfl, hb⟩
                  exact ⟨_, rfl, rfl, hb⟩
                · intro a' u hS hd
                  clear hd
                  have hsz := hS.2.size
                  go_simp
                  exact ⟨_, rfl, ⟨_, rfl, hsz, heap_alloc_last _ _⟩, (Below.refl _ _).alloc (Nat.le_refl _) _⟩
              · exact ⟨fun h => absurd h (by decide), fun h => absurd h (by decide), fun h => absurd h (by decide), fun h => absurd h (by decide), fun h => absurd h (by decide), fun h => absurd h (by decide), fun h => absurd h (by decide), fun h => absurd h (by decide), fun h => absurd h (by decide), fun h => absurd h (by decide), fun h => absurd h (by decide), fun h => absurd h (by decide), fun h => absurd h (by decide), fun _ => od_extract 11 42 1 _ _ rfl (by unfold Waits; kernel_rfl) rfl (fun _ _ h => h) rfl (fun _ => rfl), fun h => absurd h (by decide), fun h => absurd h (by decide), fun _ => od_assign_dep 13 55 rfl (by unfold Waits; kernel_rfl) rfl (fun _ _ h => h), trivial⟩
              · intro o a' u ho hS hd
                cases ho
                obtain ⟨_, e13, rfl⟩ := hd 12 (by decide) (by unfold Waits; kernel_rfl)
                obtain ⟨_, e15, g, rfl, hg, hh⟩ := hd 14 (by decide) (by unfold Waits; kernel_rfl)
                refine wp_store_row _ _ _ rfl g _ (eval_tmp (t := 12) e15) (eval_tmp (t := 54) e13) 33 _ hh colSize rfl (by simp [Value.oneCell']) ⟨rfl, below_setRow (Below.refl _ _) hg _, fun i v hi hv hR => ?_⟩
                match i, hR with
                | 0, h => trivial
                | 1, h => trivial
                | 2, h => trivial
                | 3, h => trivial
                | 4, h => trivial
                | 5, h => trivial
                | 6, h => trivial
                | 7, h => trivial
                | 8, h => trivial
                | 9, h => trivial
                | 10, h => trivial
                | 11, h => exact h
                | 12, h => trivial
                | 13, h => exact h
                | 14, h => exact ⟨g, Option.some.inj (hv.symm.trans e15), hg, setRow_heap u g _ _ _ _ hh⟩
                | 15, h => trivial
                | 16, h => exact h
                | i + 17, _ => trivial
              · intro a' w5 h
                obtain ⟨_, e12, gc, rfl, hgc, hcc⟩ := h.new 14 (by decide) (by decide) (by decide +kernel)
                replace e12 : a'.tmps[12]? = some (.pointer (some ⟨gc, 0, none⟩)) := e12
                have hold := h.old
                have hsz : a'.tmps.size = 60 := h.size
                have hdf : a'.defers = [] := h.defers
                have hbw := h.below
                clear h
                obtain ⟨tmps, defers⟩ := a'
                simp only at hsz hdf e12 hold
                subst hdf
                obtain ⟨ll⟩ := tmps
                match ll, hsz with
                | z0 :: z1 :: z2 :: z3 :: z4 :: z5 :: z6 :: z7 :: z8 :: z9 :: z10 :: z11 :: z12 :: z13 :: z14 :: z15 :: z16 :: z17 :: z18 :: z19 :: z20 :: z21 :: z22 :: z23 :: z24 :: z25 :: z26 :: z27 :: z28 :: z29 :: z30 :: z31 :: z32 :: z33 :: z34 :: z35 :: z36 :: z37 :: z38 :: z39 :: z40 :: z41 :: z42 :: z43 :: z44 :: z45 :: z46 :: z47 :: z48 :: z49 :: z50 :: z51 :: z52 :: z53 :: z54 :: z55 :: z56 :: z57 :: z58 :: z59 :: [], _ =>
                  obtain rfl : z12 = .pointer (some ⟨gc, 0, none⟩) := by simpa using e12
                  clear e12
                  have o := hold 0 (by decide)
                  simp only [List.getElem?_toArray, List.getElem?_cons_zero, Option.some.injEq] at o
                  subst o
                  have o := hold 1 (by decide)
                  simp only [List.getElem?_toArray, List.getElem?_cons_zero, List.getElem?_cons_succ, Option.some.injEq] at o
                  subst o
                  have o := hold 2 (by decide)
                  simp only [List.getElem?_toArray, List.getElem?_cons_zero, List.getElem?_cons_succ, Option.some.injEq] at o
                  subst o
                  have o := hold 3 (by decide)
                  simp only [List.getElem?_toArray, List.getElem?_cons_zero, List.getElem?_cons_succ, Option.some.injEq] at o
                  subst o
                  have o := hold 4 (by decide)
                  simp only [List.getElem?_toArray, List.getElem?_cons_zero, List.getElem?_cons_succ, Option.some.injEq] at o
                  subst o
                  have o := hold 5 (by decide)
                  simp only [List.getElem?_toArray, List.getElem?_cons_zero, List.getElem?_cons_succ, Option.some.injEq] at o
                  subst o
                  have o := hold 6 (by decide)
                  simp only [List.getElem?_toArray, List.getElem?_cons_zero, List.getElem?_cons_succ, Option.some.injEq] at o
                  subst o
                  have o := hold 7 (by decide)
                  simp only [List.getElem?_toArray, List.getElem?_cons_zero, List.getElem?_cons_succ, Option.some.injEq] at o
                  subst o
                  have o := hold 8 (by decide)
                  simp only [List.getElem?_toArray, List.getElem?_cons_zero, List.getElem?_cons_succ, Option.some.injEq] at o
                  subst o
                  have o := hold 9 (by decide)
                  simp only [List.getElem?_toArray, List.getElem?_cons_zero, List.getElem?_cons_succ, Option.some.injEq] at o
                  subst o
                  have o := hold 10 (by decide)
                  simp only [List.getElem?_toArray, List.getElem?_cons_zero, List.getElem?_cons_succ, Option.some.injEq] at o
                  subst o
                  have o := hold 11 (by decide)
                  simp only [List.getElem?_toArray, List.getElem?_cons_zero, List.getElem?_cons_succ, Option.some.injEq] at o
                  subst o
                  have o := hold 14 (by decide)
                  simp only [List.getElem?_toArray, List.getElem?_cons_zero, List.getElem?_cons_succ, Option.some.injEq] at o
                  subst o
                  have o := hold 15 (by decide)
                  simp only [List.getElem?_toArray, List.getElem?_cons_zero, List.getElem?_cons_succ, Option.some.injEq] at o
                  subst o
                  have o := hold 16 (by decide)
                  simp only [List.getElem?_toArray, List.getElem?_cons_zero, List.getElem?_cons_succ, Option.some.injEq] at o
                  subst o
                  have o := hold 17 (by decide)
                  simp only [List.getElem?_toArray, List.getElem?_cons_zero, List.getElem?_cons_succ, Option.some.injEq] at o
                  subst o
                  have o := hold 18 (by decide)
                  simp only [List.getElem?_toArray, List.getElem?_cons_zero, List.getElem?_cons_succ, Option.some.injEq] at o
                  subst o
                  have o := hold 19 (by decide)
                  simp only [List.getElem?_toArray, List.getElem?_cons_zero, List.getElem?_cons_succ, Option.some.injEq] at o
                  subst o
                  have o := hold 20 (by decide)
                  simp only [List.getElem?_toArray, List.getElem?_cons_zero, List.getElem?_cons_succ, Option.some.injEq] at o
                  subst o
                  have o := hold 21 (by decide)
                  simp only [List.getElem?_toArray, List.getElem?_cons_zero, List.getElem?_cons_succ, Option.some.injEq] at o
                  subst o
                  have o := hold 22 (by decide)
                  simp only [List.getElem?_toArray, List.getElem?_cons_zero, List.getElem?_cons_succ, Option.some.injEq] at o
                  subst o
                  have o := hold 23 (by decide)
                  simp only [List.getElem?_toArray, List.getElem?_cons_zero, List.getElem?_cons_succ, Option.some.injEq] at o
                  subst o
                  have o := hold 24 (by decide)
                  simp only [List.getElem?_toArray, List.getElem?_cons_zero, List.getElem?_cons_succ, Option.some.injEq] at o
                  subst o
                  have o := hold 25 (by decide)
                  simp only [List.getElem?_toArray, List.getElem?_cons_zero, List.getElem?_cons_succ, Option.some.injEq] at o
                  subst o
                  have o := hold 26 (by decide)
                  simp only [List.getElem?_toArray, List.getElem?_cons_zero, List.getElem?_cons_succ, Option.some.injEq] at o
                  subst o
                  have o := hold 27 (by decide)
                  simp only [List.getElem?_toArray, List.getElem?_cons_zero, List.getElem?_cons_succ, Option.some.injEq] at o
                  subst o
                  have o := hold 28 (by decide)
                  simp only [List.getElem?_toArray, List.getElem?_cons_zero, List.getElem?_cons_succ, Option.some.injEq] at o
                  subst o
                  have o := hold 29 (by decide)
                  simp only [List.getElem?_toArray, List.getElem?_cons_zero, List.getElem?_cons_succ, Option.some.injEq] at o
                  subst o
                  have o := hold 30 (by decide)
                  simp only [List.getElem?_toArray, List.getElem?_cons_zero, List.getElem?_cons_succ, Option.some.injEq] at o
                  subst o
                  have o := hold 31 (by decide)
                  simp only [List.getElem?_toArray, List.getElem?_cons_zero, List.getElem?_cons_succ, Option.some.injEq] at o
                  subst o
                  have o := hold 32 (by decide)
                  simp only [List.getElem?_toArray, List.getElem?_cons_zero, List.getElem?_cons_succ, Option.some.injEq] at o
                  subst o
                  have o := hold 33 (by decide)
                  simp only [List.getElem?_toArray, List.getElem?_cons_zero, List.getElem?_cons_succ, Option.some.injEq] at o
                  subst o
                  have o := hold 34 (by decide)
                  simp only [List.getElem?_toArray, List.getElem?_cons_zero, List.getElem?_cons_succ, Option.some.injEq] at o
                  subst o
                  have o := hold 35 (by decide)
                  simp only [List.getElem?_toArray, List.getElem?_cons_zero, List.getElem?_cons_succ, Option.some.injEq] at o
                  subst o
                  have o := hold 36 (by decide)
                  simp only [List.getElem?_toArray, List.getElem?_cons_zero, List.getElem?_cons_succ, Option.some.injEq] at o
                  subst o
                  have o := hold 37 (by decide)
                  simp only [List.getElem?_toArray, List.getElem?_cons_zero, List.getElem?_cons_succ, Option.some.injEq] at o
                  subst o
                  have o := hold 38 (by decide)
                  simp only [List.getElem?_toArray, List.getElem?_cons_zero, List.getElem?_cons_succ, Option.some.injEq] at o
                  subst o
                  have o := hold 39 (by decide)
                  simp only [List.getElem?_toArray, List.getElem?_cons_zero, List.getElem?_cons_succ, Option.some.injEq] at o
                  subst o
                  have o := hold 40 (by decide)
                  simp only [List.getElem?_toArray, List.getElem?_cons_zero, List.getElem?_cons_succ, Option.some.injEq] at o
                  subst o
                  have o := hold 41 (by decide)
                  simp only [List.getElem?_toArray, List.getElem?_cons_zero, List.getElem?_cons_succ, Option.some.injEq] at o
                  subst o
                  have o := hold 56 (by decide)
                  simp only [List.getElem?_toArray, List.getElem?_cons_zero, List.getElem?_cons_succ, Option.some.injEq] at o
                  subst o
                  have o := hold 57 (by decide)
                  simp only [List.getElem?_toArray, List.getElem?_cons_zero, List.getElem?_cons_succ, Option.some.injEq] at o
                  subst o
                  have o := hold 58 (by decide)
                  simp only [List.getElem?_toArray, List.getElem?_cons_zero, List.getElem?_cons_succ, Option.some.injEq] at o
                  subst o
                  have o := hold 59 (by decide)
                  simp only [List.getElem?_toArray, List.getElem?_cons_zero, List.getElem?_cons_succ, Option.some.injEq] at o
                  subst o
                  clear hold
                  have CC := Lib.hid hcc
                  have HI5 := Lib.hid (HIr.out.below.trans (hbw.mono HIr.out.below.size))
                  obtain ⟨po, co, ho1, ho2⟩ := HIr.out.out
                  have O5 := Lib.hid ((hbw.block _ (block_lt ho1)).trans ho1)
                  have W5 := Lib.hid (ownsRow_below ho2 hbw)
                  have SZ5 : w3.heap.size ≤ w5.heap.size := HI5.out.size
                  clear hcc hbw ho1 ho2 hgc c0 c1
                  go_wp2_with (first
                    | (with_reducible refine wpList_load_row rfl 41 _ rfl w3.heap.size rfl 41 _ (0, 0) _ O5.out Try.underlying41 rfl (imgSize3 _ _ _) ?_)
                    | (with_reducible refine wpList_load_row rfl 33 _ rfl gc rfl 33 _ (0, 0) _ CC.out Try.underlying33 rfl (colSize4 _ _ _ _) ?_))
                  refine (refadd_any w3.heap.size W H po (4 * (y * wn + x)) co _ rc w5 W5.out SZ5 (by have h1 := HCNT.out; have h2 := HKK.out; omega)).mono ?_
                  rintro e w6 ⟨g6, cap6, rfl, hrow6, hgr6⟩
                  have hne : some w3.heap.size ≠ (Value.slice po (4 * (y * wn + x)) co).ownBlock := by
                    intro e
                    have h1 := W5.out
                    rcases h1.2 with ⟨h', _⟩ | ⟨g', cap', cur, h', _, hgg, _⟩
                    · simp only [Value.slice.injEq] at h'
                      obtain ⟨rfl, _, _⟩ := h'
                      cases e
                    · simp only [Value.slice.injEq] at h'
                      obtain ⟨rfl, _⟩ := h'
                      have h2 : w3.heap.size = g' := Option.some.inj e
                      rw [← h2, O5.out] at hgg
                      simp at hgg
                  have O6 := Lib.hid (grown_block hgr6 O5.out hne)
                  have B6 := Lib.hid (HI5.out.grown hgr6 HI5.out.size (fun j e => (World.ownsRow.lt W5.out j e).1))
                  have R6 := Lib.hid hrow6
                  clear hrow6 hgr6 hne
                  go_wp2_with (with_reducible refine wpList_store_row rfl 41 _ _ rfl w3.heap.size _ rfl rfl 41 _ O6.out (imgSize3 _ _ _) (imgSz _ _ _ _ _ _) (imgOne _ _ _ _ _) ?_)
                  have HNX := Lib.hid (refI_step HOUT.out O6.out R6.out B6.out)
                  go_roundg (wn - (x + 1))
                  case measure => have := Hgx.out; omega
                  case rel => exact ⟨x + 1, by omega, rfl, by go_num, HNX.out⟩
            · obtain rfl : x = wn := by omega
              have hxW : ¬ ((x : Nat) : Int) < W := by rw [HWN.out]; omega
              have HNY : Hid (RefI w3 k a l W H x ((y + 1) * x) wr) := Lib.hid (by rw [Nat.succ_mul]; exact HIr.out)
              go_wp2_with fail
              go_roundg (hn' - (y + 1))
              case measure => have := Hgy.out; omega
              case rel => exact ⟨y + 1, by omega, rfl, by go_num, HNY.out⟩
        · obtain rfl : y = hn' := by omega
          have hyH : ¬ ((y : Nat) : Int) < H := by rw [HHN.out]; omega
          obtain ⟨po, co, ho1, ho2⟩ := HIy.out.out
          have O5 := Lib.hid ho1
          have W5 := Lib.hid ho2
          have T2 := Lib.hid ((HIy.out.below.block _ (block_lt R2.out)).trans R2.out)
          have B5 := Lib.hid (HB3.out.trans (HIy.out.below.mono HB3.out.size))
          clear ho1 ho2
          go_wp2_with (first
            | (with_reducible refine wpList_load_row rfl 41 _ rfl w3.heap.size rfl 41 _ (0, 0) _ O5.out Try.underlying41 rfl (imgSize3 _ _ _) ?_)
            | (with_reducible refine wpList_store_row rfl 41 _ _ rfl (w.heap.size + 1) _ rfl rfl 41 _ T2.out (imgSize3 _ _ _) (imgSz _ _ _ _ _ _) (imgOne _ _ _ _ _) ?_))
          have HAO : Hid (pm.applyOut op a W l = pm.out k a l wn (y * wn)) := Lib.hid (by
            unfold pm.applyOut
            rw [HI.out]
            simp only [HWN.out, Int.toNat_natCast]
            rw [HM.out.len, HM4.out, Nat.mul_div_cancel_left _ (by omega)])
          have hpo : ∃ g, po = some ⟨g, 0, none⟩ := by
            have h1 := W5.out
            rcases h1.2 with ⟨_, h'⟩ | ⟨g', cap', cur, h', _⟩
            · have h2 : 0 < y * wn := Nat.mul_pos (by omega) (by omega)
              omega
            · simp only [Value.slice.injEq] at h'
              exact ⟨g', h'.1⟩
          obtain ⟨g9, rfl⟩ := hpo
          have hg9 : w3.heap.size ≤ g9 := (World.ownsRow.lt W5.out g9 rfl).1
          have W6 := World.ownsRow.kept W5.out (grownBy_setRow wr (w.heap.size + 1) #[.int .i64 W, .int .i64 H, .slice (some ⟨g9, 0, none⟩) (4 * (y * wn)) co]) (.inr (by intro e; have h9 : g9 = w.heap.size + 1 := Option.some.inj e; omega))
          exact bodyPost_ret (results_cell_tmp (p := 6) (q := 7) (ty := 41) rfl _ _ (w.heap.size + 1) 41 _ (0, 0) _ _ rfl rfl (setRow_heap _ _ _ _ _ _ T2.out) Try.underlying41 rfl imgSize) rfl (ApplyPost.good HV.out (by rw [HAO.out, pm.out_length]) (by rw [HAO.out]; exact World.ownsRow.mono W6 (by omega)) (below_setRow B5.out (by omega) _))
    · have hg' : goodB W H m = false := by simpa using hg
      have HV : Hid (pm.applyErr op a W H m = 6) := Lib.hid (by rw [HE.out, if_pos HE0.out, if_neg hg])
      rw [hg']
      clear hg hg'
      go_wp2_with (with_reducible refine wpList_store_row rfl 41 _ _ rfl (w.heap.size + 1) _ rfl rfl 41 _ R2.out (imgSize3 _ _ _) (imgSz _ _ _ _ _ _) (imgOne _ _ _ _ _) ?_)
      exact bodyPost_ret (results_cell_tmp (p := 6) (q := 7) (ty := 41) rfl _ _ (w.heap.size + 1) 41 _ (0, 0) _ _ rfl rfl (setRow_heap _ _ _ _ _ _ R2.out) Try.underlying41 rfl imgSize) rfl (ApplyPost.bad HV.out (by omega) (below_setRow HB3.out (by omega) _))
  · have HV : Hid (pm.applyErr op a W H m = pm.errOf op a) := Lib.hid (by rw [HE.out, if_neg hE])
    have HZ : Hid (¬ pm.errOf op a = 0) := Lib.hid hE
    generalize pm.errOf op a = E at *
    have hE' : (E == 0) = false := by simpa using hE
    clear hE HE
    go_wp2_with (with_reducible refine wpList_store_row rfl 41 _ _ rfl (w.heap.size + 1) _ rfl rfl 41 _ Q2.out (imgSize3 _ _ _) (imgSz _ _ _ _ _ _) (imgOne _ _ _ _ _) ?_)
    exact bodyPost_ret (results_cell_tmp (p := 6) (q := 7) (ty := 41) rfl _ _ (w.heap.size + 1) 41 _ (0, 0) _ _ rfl rfl (setRow_heap _ _ _ _ _ _ Q2.out) Try.underlying41 rfl imgSize) rfl (ApplyPost.bad HV.out HZ.out (below_setRow HB1.out (by omega) _))
end Go.Proofs.Ytdemndjenlhahaa
