/- The walks of the reference's Forward and Inverse. -/
import Derived.Test.YtdpccgnmlfakfaaDct8
import Derived.Test.YtdpccgnmlfakfaaDctMath2
import Derived.Test.YtdpccgnmlfakfaaOwnI
namespace Go.Proofs.Ytdpccgnmlfakfaa
open Go.RowKit

theorem ownsRow_drew {w : World} {base : Nat} {e : TypeId} {size : Nat} {v : Value} {n : Nat} {xs : List Value} (h : w.ownsRow base e size v n xs) : w.drew.ownsRow base e size v n xs := h

/-- a row of numbers that is grown leaves a block of another type as it is -/
theorem grown_other {wr w3 : World} {base g2 : Nat} {v : Value} {k : Nat} {xs : List Value} {o : Obj} {cs : Array Value} {t : TypeId} (hown : wr.ownsRow base 3 1 v k xs) (hx : wr.heap[g2]? = some (.cells cs t (0, 0))) (hne : t ≠ 3) (hg : (wr.alloc o).grownBy w3 v.ownBlock) : w3.heap[g2]? = some (.cells cs t (0, 0)) := by
  rw [hg.block g2 (by have := block_lt hx; simp; omega) ?_]
  · exact (heap_alloc_old _ _ (block_lt hx)).trans hx
  · intro e
    rcases hown.2 with ⟨rfl, _⟩ | ⟨g, cap', cur, rfl, _, h', _⟩
    · cases e
    · have e' : some g2 = some g := e
      cases e'
      rw [hx] at h'
      simp only [Option.some.injEq, Obj.cells.injEq] at h'
      exact hne h'.2.1

set_option maxRecDepth 100000 in
set_option maxHeartbeats 3200000 in
theorem refForward_any (a : Option Addr) (n cap : Nat) (l : List Int) (w : World) (hn : l.length = n) (hm : n ≤ maxLen) (hr : Rd .i64 w a l) :
    Calls Try.prog 12 #[.slice a n cap] w fun e w' => AnsPost 64 (dm.fwd l) (dm.fitE l (-32768) 32767) w e w' := by
  have HF := Lib.hid (within_any a n cap l (-32768) 32767 w hn hm hr)
  by_cases h0 : dm.fitE l (-32768) 32767 = 0
  · obtain ⟨hl, hw⟩ := dm.fitE_zero h0
    obtain rfl : n = 64 := by omega
    obtain ⟨bl, off, rfl⟩ := hr.at (by omega)
    obtain ⟨hz, hsz⟩ := zero_of_info info64
    obtain ⟨i0, hi, hz0, hz1, hz2⟩ := info_parts infoInt0
    have hwl : dm.Within 1048576 l := fun x hx => by have := hw x hx; constructor <;> omega
    obtain ⟨fR, hfR⟩ : ∃ fR : Nat → Int, fR = fun j => dm.val dm.basL l j := ⟨_, rfl⟩
    have HfR : Hid (∀ A B, A < 8 → B < 8 → fR (A * 8 + B) = (134217728 + dm.acc dm.basL l A B 8 0) / 268435456) := Lib.hid (by
      intro A B hA hB
      rw [hfR, dm.acc_done _ _ A B hA hB, Int.add_comm]
      rfl)
    have HR : Hid (dm.fwd l = (List.range 64).map fR) := Lib.hid (by rw [hfR]; exact dm.fwd_eq l)
    rw [HR.out, h0]
    rw [h0] at HF
    have Hwl := Lib.hid hwl
    have Hr := Lib.hid hr
    have Hl := Lib.hid hl
    have Hrs : Hid ((Try.prog.info? 50).map (fun x => x.size) = some (ints dm.basL).size) := Lib.hid hsz
    have Hz8s : Hid ((ints zero64).size = (ints dm.basL).size) := Lib.hid (by rw [ints_size, ints_size]; decide +kernel)
    clear hn hm hr hl hw h0 hwl hfR HR hsz
    go_enter Try.func12, Try.ntmps12
    go_wp2_with fail
    go_must (refine HF.out.mono ?_)
    rintro e wx ⟨rfl, rfl⟩
    go_wp2_with fail
    go_must (refine (refTable_any _).mono ?_)
    rintro e w1 ⟨rfl, hb1⟩
    have B1 := Lib.hid hb1
    clear hb1
    go_upto_region 5 with (with_reducible refine wpList_store_row rfl 50 _ _ rfl w1.heap.size _ rfl rfl 50 _ (heap_alloc_last _ _) Hrs.out Hz8s.out (ints_one _) ?_; rw [World.setRow_alloc_new])
    have X1 : Hid ((w1.alloc (.cells (ints dm.basL) 50)).heap[w1.heap.size]? = some (.cells (ints dm.basL) 50 (0, 0))) := Lib.hid (heap_alloc_new _ _)
    have B2 : Hid (Below w.heap.size w (w1.alloc (.cells (ints dm.basL) 50))) := Lib.hid (B1.out.alloc B1.out.size _)
    generalize hw2 : w1.alloc (.cells (ints dm.basL) 50) = w2 at *
    clear hw2
    generalize w1.heap.size = tb at *
    go_wp2_with fail
    go_loopg [6, 7] 8 (fun gk v s wr => ∃ A : Nat, A ≤ 8 ∧ gk = 8 - A ∧ s = .int .i64 A ∧ wr.ownsRow w.heap.size 3 1 v (A * 8) ((((List.range 64).map fR).take (A * 8)).map (Value.int .i64)) ∧
      wr.heap[tb]? = some (.cells (ints dm.basL) 50 (0, 0)) ∧ Below w.heap.size w wr)
    case atStart => exact ⟨0, by omega, rfl, rfl, World.ownsRow_nil _ _ _ _, X1.out, B2.out⟩
    case round =>
      obtain ⟨A, hA, hg, rfl, hown, hx, hnx⟩ := hrel
      have HgA := Lib.hid hg
      have Hown := Lib.hid hown
      have Hx := Lib.hid hx
      have Hnx := Lib.hid hnx
      clear hg hown hx hnx X1 B2
      by_cases hltA : A < 8
      · have hA8 : (A : Int) < 8 := by omega
        go_wp2_with fail
        go_loopg [6, 8] 8 (fun gk v s wr => ∃ B : Nat, B ≤ 8 ∧ gk = 8 - B ∧ s = .int .i64 B ∧ wr.ownsRow w.heap.size 3 1 v (A * 8 + B) ((((List.range 64).map fR).take (A * 8 + B)).map (Value.int .i64)) ∧
          wr.heap[tb]? = some (.cells (ints dm.basL) 50 (0, 0)) ∧ Below w.heap.size w wr)
        case atStart => exact ⟨0, by omega, rfl, rfl, Hown.out, Hx.out, Hnx.out⟩
        case round =>
          obtain ⟨B, hB, hg, rfl, hown, hx, hnx⟩ := hrel
          have HgB := Lib.hid hg
          clear Hown Hx Hnx
          have Hown := Lib.hid hown
          have Hx := Lib.hid hx
          have Hnx := Lib.hid hnx
          clear hg hown hx hnx
          by_cases hltB : B < 8
          · have hB8 : (B : Int) < 8 := by omega
            go_wp2_with fail
            go_loopg [9, 10] 8 (fun gk sm s wt => ∃ C : Nat, C ≤ 8 ∧ gk = 8 - C ∧ s = .int .i64 C ∧ sm = .int .i64 (134217728 + dm.acc dm.basL l A B C 0) ∧ wt.ownsRow w.heap.size 3 1 u6 (A * 8 + B) ((((List.range 64).map fR).take (A * 8 + B)).map (Value.int .i64)) ∧
              wt.heap[tb]? = some (.cells (ints dm.basL) 50 (0, 0)) ∧ Below w.heap.size w wt)
            case atStart => exact ⟨0, by omega, rfl, rfl, rfl, Hown.out, Hx.out, Hnx.out⟩
            case round =>
              obtain ⟨C, hC, hg, rfl, rfl, hown, hx, hnx⟩ := hrel
              have HgC := Lib.hid hg
              clear Hown Hx Hnx
              have Hown := Lib.hid hown
              have Hx := Lib.hid hx
              have Hnx := Lib.hid hnx
              clear hg hown hx hnx
              by_cases hltC : C < 8
              · have hC8 : (C : Int) < 8 := by omega
                go_wp2_with fail
                go_loopg [9, 11] 8 (fun gk sm s wt => ∃ D : Nat, D ≤ 8 ∧ gk = 8 - D ∧ s = .int .i64 D ∧ sm = .int .i64 (134217728 + dm.acc dm.basL l A B C D) ∧ wt.ownsRow w.heap.size 3 1 u6 (A * 8 + B) ((((List.range 64).map fR).take (A * 8 + B)).map (Value.int .i64)) ∧
                  wt.heap[tb]? = some (.cells (ints dm.basL) 50 (0, 0)) ∧ Below w.heap.size w wt)
                case atStart => exact ⟨0, by omega, rfl, rfl, rfl, Hown.out, Hx.out, Hnx.out⟩
                case round =>
                  obtain ⟨D, hD, hg, rfl, rfl, hown, hx, hnx⟩ := hrel
                  have HgD := Lib.hid hg
                  clear Hown Hx Hnx
                  have Hown := Lib.hid hown
                  have Hx := Lib.hid hx
                  have Hnx := Lib.hid hnx
                  clear hg hown hx hnx
                  by_cases hltD : D < 8
                  · have hD8 : (D : Int) < 8 := by omega
                    have i1 : 8 * (B : Int) + (D : Int) = ((B * 8 + D : Nat) : Int) := by omega
                    have i2 : 8 * (A : Int) + (C : Int) = ((A * 8 + C : Nat) : Int) := by omega
                    have i3 : 8 * (C : Int) + (D : Int) = ((C * 8 + D : Nat) : Int) := by omega
                    have c1 := ints_cell Hx.out (B * 8 + D) (by show _ < 64; omega)
                    have c2 := ints_cell Hx.out (A * 8 + C) (by show _ < 64; omega)
                    have c3 := (Hr.out.below Hnx.out).cell (C * 8 + D) (by rw [Hl.out]; omega)
                    skip
                    obtain ⟨t1, t2, t3, t4⟩ := dm.term_within dm.bas_within Hwl.out (B * 8 + D) (A * 8 + C) (C * 8 + D)
                    obtain ⟨t5, t6⟩ := dm.acc_within dm.bas_within Hwl.out A B C D hC hD
                    have HS := Lib.hid (dm.acc_step dm.basL l A B C D)
                    generalize dm.basL.getD (B * 8 + D) 0 = p at *
                    generalize dm.basL.getD (A * 8 + C) 0 = q at *
                    generalize l.getD (C * 8 + D) 0 = v at *
                    generalize dm.acc dm.basL l A B C D = sm at *
                    go_wp2_with fail
                    go_region
                    go_wp2_with fail
                    go_roundg (8 - (D + 1))
                    case measure => have := HgD.out; omega
                    case rel => exact ⟨D + 1, by omega, rfl, by go_num, by rw [HS.out, Int.add_assoc], ownsRow_drew Hown.out, Hx.out, Hnx.out.drew⟩
                  · obtain rfl : D = 8 := by omega
                    go_wp2_with fail
                    go_roundg (8 - (C + 1))
                    case measure => have := HgC.out; omega
                    case rel => exact ⟨C + 1, by omega, rfl, by go_num, by rw [dm.acc_next], Hown.out, Hx.out, Hnx.out⟩
              · obtain rfl : C = 8 := by omega
                obtain ⟨t5, t6⟩ := dm.acc_within dm.bas_within Hwl.out A B 8 0 (by omega) (by omega)
                have HV := Lib.hid (HfR.out A B hltA hltB)
                have HN := Lib.hid (dm.take_range (f := fR) (j := A * 8 + B) (by omega))
                rw [HV.out] at HN
                generalize dm.acc dm.basL l A B 8 0 = sm at *
                clear HV
                go_wp2_with fail
                go_must (refine (over_any _ _ (by omega) (by omega)).mono ?_)
                rintro e w9 ⟨rfl, rfl⟩
                have hsz := Hnx.out.size
                have HO := Lib.hid (Hown.out.alloc (.cells #[.int .i64 ((134217728 + sm) / 268435456)] 3))
                go_wp2_with (at_builtin; go_must (refine wpList_append_own _ rfl _ _ 22 rfl w.heap.size 3 i0 (.int .i64 0) 1 8 Try.underlying22 hi hz0 hz1 hz2 rfl (by decide) _ (A * 8 + B) _ rfl HO.out ⟨wr.heap.size, 0, none⟩ 1 1 [.int .i64 ((134217728 + sm) / 268435456)] rfl rfl (cell_one_new _ _ _) (ints_oneCell .i64 [((134217728 + sm) / 268435456)]) (by unfold maxLen; omega) (by omega) (by simp; omega) ?_; intro v' w3 hown hg hnil; have Hown' := Lib.hid hown; have Hgr := Lib.hid hg; clear hown hg hnil))
                go_roundg (8 - (B + 1))
                case measure => have := HgB.out; omega
                case rel =>
                  refine ⟨B + 1, by omega, rfl, by go_num, ?_, grown_other Hown.out Hx.out (by decide) Hgr.out, ?_⟩
                  · have := Hown'.out
                    rw [← List.map_singleton, ← List.map_append, HN.out] at this
                    exact this
                  · refine (Hnx.out.alloc hsz _).grown Hgr.out (by simp; omega) ?_
                    intro j hj
                    exact (Hown.out.lt j hj).1
          · obtain rfl : B = 8 := by omega
            go_wp2_with fail
            go_roundg (8 - (A + 1))
            case measure => have := HgA.out; omega
            case rel => exact ⟨A + 1, by omega, rfl, by go_num, by have := Hown.out; rw [show A * 8 + 8 = (A + 1) * 8 by omega] at this; exact this, Hx.out, Hnx.out⟩
      · obtain rfl : A = 8 := by omega
        go_wp2_with fail
        go_ret2
        refine ⟨.inr ⟨rfl, _, rfl, fresh_of Hown.out ?_⟩, Hnx.out⟩
        rintro rfl
        rcases Hown.out.2 with ⟨_, h'⟩ | ⟨g, cap', cur, h', _⟩
        · cases h'
        · cases h'
  · have H0 := Lib.hid h0
    obtain ⟨er, her⟩ : ∃ er, er = dm.fitE l (-32768) 32767 := ⟨_, rfl⟩
    rw [← her] at H0 HF h0 ⊢
    clear hn hm hr her
    go_enter Try.func12, Try.ntmps12
    go_wp2_with fail
    go_must (refine HF.out.mono ?_)
    rintro e wx ⟨rfl, rfl⟩
    go_wp2_with fail
    go_ret2
    exact ⟨.inl ⟨H0.out, rfl⟩, Below.refl _ _⟩

set_option maxRecDepth 100000 in
set_option maxHeartbeats 3200000 in
theorem refInverse_any (a : Option Addr) (n cap : Nat) (l : List Int) (w : World) (hn : l.length = n) (hm : n ≤ maxLen) (hr : Rd .i64 w a l) :
    Calls Try.prog 14 #[.slice a n cap] w fun e w' => AnsPost 64 (dm.inv l) (dm.fitE l (-1048576) 1048576) w e w' := by
  have HF := Lib.hid (within_any a n cap l (-1048576) 1048576 w hn hm hr)
  by_cases h0 : dm.fitE l (-1048576) 1048576 = 0
  · obtain ⟨hl, hw⟩ := dm.fitE_zero h0
    obtain rfl : n = 64 := by omega
    obtain ⟨bl, off, rfl⟩ := hr.at (by omega)
    obtain ⟨hz, hsz⟩ := zero_of_info info64
    obtain ⟨i0, hi, hz0, hz1, hz2⟩ := info_parts infoInt0
    have hwl : dm.Within 1048576 l := fun x hx => by have := hw x hx; constructor <;> omega
    obtain ⟨fR, hfR⟩ : ∃ fR : Nat → Int, fR = fun j => dm.clamp8 (dm.val dm.basT l j) := ⟨_, rfl⟩
    have HfR : Hid (∀ A B, A < 8 → B < 8 → fR (A * 8 + B) = dm.clamp8 ((134217728 + dm.acc dm.basT l A B 8 0) / 268435456)) := Lib.hid (by
      intro A B hA hB
      rw [hfR, dm.acc_done _ _ A B hA hB, Int.add_comm]
      rfl)
    have HR : Hid (dm.inv l = (List.range 64).map fR) := Lib.hid (by rw [hfR]; exact dm.inv_eq l)
    rw [HR.out, h0]
    rw [h0] at HF
    have Hwl := Lib.hid hwl
    have Hr := Lib.hid hr
    have Hl := Lib.hid hl
    have Hrs : Hid ((Try.prog.info? 50).map (fun x => x.size) = some (ints dm.basL).size) := Lib.hid hsz
    have Hz8s : Hid ((ints zero64).size = (ints dm.basL).size) := Lib.hid (by rw [ints_size, ints_size]; decide +kernel)
    clear hn hm hr hl hw h0 hwl hfR HR hsz
    go_enter Try.func14, Try.ntmps14
    go_wp2_with fail
    go_must (refine HF.out.mono ?_)
    rintro e wx ⟨rfl, rfl⟩
    go_wp2_with fail
    go_must (refine (refTable_any _).mono ?_)
    rintro e w1 ⟨rfl, hb1⟩
    have B1 := Lib.hid hb1
    clear hb1
    go_upto_region 5 with (with_reducible refine wpList_store_row rfl 50 _ _ rfl w1.heap.size _ rfl rfl 50 _ (heap_alloc_last _ _) Hrs.out Hz8s.out (ints_one _) ?_; rw [World.setRow_alloc_new])
    have X1 : Hid ((w1.alloc (.cells (ints dm.basL) 50)).heap[w1.heap.size]? = some (.cells (ints dm.basL) 50 (0, 0))) := Lib.hid (heap_alloc_new _ _)
    have B2 : Hid (Below w.heap.size w (w1.alloc (.cells (ints dm.basL) 50))) := Lib.hid (B1.out.alloc B1.out.size _)
    generalize hw2 : w1.alloc (.cells (ints dm.basL) 50) = w2 at *
    clear hw2
    generalize w1.heap.size = tb at *
    go_wp2_with fail
    go_loopg [6, 7] 8 (fun gk v s wr => ∃ A : Nat, A ≤ 8 ∧ gk = 8 - A ∧ s = .int .i64 A ∧ wr.ownsRow w.heap.size 3 1 v (A * 8) ((((List.range 64).map fR).take (A * 8)).map (Value.int .i64)) ∧
      wr.heap[tb]? = some (.cells (ints dm.basL) 50 (0, 0)) ∧ Below w.heap.size w wr)
    case atStart => exact ⟨0, by omega, rfl, rfl, World.ownsRow_nil _ _ _ _, X1.out, B2.out⟩
    case round =>
      obtain ⟨A, hA, hg, rfl, hown, hx, hnx⟩ := hrel
      have HgA := Lib.hid hg
      have Hown := Lib.hid hown
      have Hx := Lib.hid hx
      have Hnx := Lib.hid hnx
      clear hg hown hx hnx X1 B2
      by_cases hltA : A < 8
      · have hA8 : (A : Int) < 8 := by omega
        go_wp2_with fail
        go_loopg [6, 8] 8 (fun gk v s wr => ∃ B : Nat, B ≤ 8 ∧ gk = 8 - B ∧ s = .int .i64 B ∧ wr.ownsRow w.heap.size 3 1 v (A * 8 + B) ((((List.range 64).map fR).take (A * 8 + B)).map (Value.int .i64)) ∧
          wr.heap[tb]? = some (.cells (ints dm.basL) 50 (0, 0)) ∧ Below w.heap.size w wr)
        case atStart => exact ⟨0, by omega, rfl, rfl, Hown.out, Hx.out, Hnx.out⟩
        case round =>
          obtain ⟨B, hB, hg, rfl, hown, hx, hnx⟩ := hrel
          have HgB := Lib.hid hg
          clear Hown Hx Hnx
          have Hown := Lib.hid hown
          have Hx := Lib.hid hx
          have Hnx := Lib.hid hnx
          clear hg hown hx hnx
          by_cases hltB : B < 8
          · have hB8 : (B : Int) < 8 := by omega
            go_wp2_with fail
            go_loopg [9, 10] 8 (fun gk sm s wt => ∃ C : Nat, C ≤ 8 ∧ gk = 8 - C ∧ s = .int .i64 C ∧ sm = .int .i64 (134217728 + dm.acc dm.basT l A B C 0) ∧ wt.ownsRow w.heap.size 3 1 u6 (A * 8 + B) ((((List.range 64).map fR).take (A * 8 + B)).map (Value.int .i64)) ∧
              wt.heap[tb]? = some (.cells (ints dm.basL) 50 (0, 0)) ∧ Below w.heap.size w wt)
            case atStart => exact ⟨0, by omega, rfl, rfl, rfl, Hown.out, Hx.out, Hnx.out⟩
            case round =>
              obtain ⟨C, hC, hg, rfl, rfl, hown, hx, hnx⟩ := hrel
              have HgC := Lib.hid hg
              clear Hown Hx Hnx
              have Hown := Lib.hid hown
              have Hx := Lib.hid hx
              have Hnx := Lib.hid hnx
              clear hg hown hx hnx
              by_cases hltC : C < 8
              · have hC8 : (C : Int) < 8 := by omega
                go_wp2_with fail
                go_loopg [9, 11] 8 (fun gk sm s wt => ∃ D : Nat, D ≤ 8 ∧ gk = 8 - D ∧ s = .int .i64 D ∧ sm = .int .i64 (134217728 + dm.acc dm.basT l A B C D) ∧ wt.ownsRow w.heap.size 3 1 u6 (A * 8 + B) ((((List.range 64).map fR).take (A * 8 + B)).map (Value.int .i64)) ∧
                  wt.heap[tb]? = some (.cells (ints dm.basL) 50 (0, 0)) ∧ Below w.heap.size w wt)
                case atStart => exact ⟨0, by omega, rfl, rfl, rfl, Hown.out, Hx.out, Hnx.out⟩
                case round =>
                  obtain ⟨D, hD, hg, rfl, rfl, hown, hx, hnx⟩ := hrel
                  have HgD := Lib.hid hg
                  clear Hown Hx Hnx
                  have Hown := Lib.hid hown
                  have Hx := Lib.hid hx
                  have Hnx := Lib.hid hnx
                  clear hg hown hx hnx
                  by_cases hltD : D < 8
                  · have hD8 : (D : Int) < 8 := by omega
                    have i1 : 8 * (D : Int) + (B : Int) = ((D * 8 + B : Nat) : Int) := by omega
                    have i2 : 8 * (C : Int) + (A : Int) = ((C * 8 + A : Nat) : Int) := by omega
                    have i3 : 8 * (C : Int) + (D : Int) = ((C * 8 + D : Nat) : Int) := by omega
                    have c1 := ints_cell Hx.out (D * 8 + B) (by show _ < 64; omega)
                    have c2 := ints_cell Hx.out (C * 8 + A) (by show _ < 64; omega)
                    have c3 := (Hr.out.below Hnx.out).cell (C * 8 + D) (by rw [Hl.out]; omega)
                    rw [← dm.basT_get B hltB D hltD] at c1; rw [← dm.basT_get A hltA C hltC] at c2
                    obtain ⟨t1, t2, t3, t4⟩ := dm.term_within dm.basT_within Hwl.out (B * 8 + D) (A * 8 + C) (C * 8 + D)
                    obtain ⟨t5, t6⟩ := dm.acc_within dm.basT_within Hwl.out A B C D hC hD
                    have HS := Lib.hid (dm.acc_step dm.basT l A B C D)
                    generalize dm.basT.getD (B * 8 + D) 0 = p at *
                    generalize dm.basT.getD (A * 8 + C) 0 = q at *
                    generalize l.getD (C * 8 + D) 0 = v at *
                    generalize dm.acc dm.basT l A B C D = sm at *
                    go_wp2_with fail
                    go_region
                    go_wp2_with fail
                    go_roundg (8 - (D + 1))
                    case measure => have := HgD.out; omega
                    case rel => exact ⟨D + 1, by omega, rfl, by go_num, by rw [HS.out, Int.add_assoc], ownsRow_drew Hown.out, Hx.out, Hnx.out.drew⟩
                  · obtain rfl : D = 8 := by omega
                    go_wp2_with fail
                    go_roundg (8 - (C + 1))
                    case measure => have := HgC.out; omega
                    case rel => exact ⟨C + 1, by omega, rfl, by go_num, by rw [dm.acc_next], Hown.out, Hx.out, Hnx.out⟩
              · obtain rfl : C = 8 := by omega
                obtain ⟨t5, t6⟩ := dm.acc_within dm.basT_within Hwl.out A B 8 0 (by omega) (by omega)
                have HV := Lib.hid (HfR.out A B hltA hltB)
                have HN := Lib.hid (dm.take_range (f := fR) (j := A * 8 + B) (by omega))
                rw [HV.out] at HN
                generalize dm.acc dm.basT l A B 8 0 = sm at *
                clear HV
                go_wp2_with fail
                go_must (refine (over_any _ _ (by omega) (by omega)).mono ?_)
                rintro e w9 ⟨rfl, rfl⟩
                have hq1 : -4611686018427387904 ≤ (134217728 + sm) / 268435456 := by omega
                have hq2 : (134217728 + sm) / 268435456 ≤ 4611686018427387904 := by omega
                clear t5 t6
                generalize (134217728 + sm) / 268435456 = q at *
                rcases (show q + 128 < 0 ∨ (0 ≤ q + 128 ∧ 255 < q + 128) ∨ (0 ≤ q + 128 ∧ q + 128 ≤ 255) by omega) with k1 | ⟨k1, k2⟩ | ⟨k1, k2⟩
                · have hcl : dm.clamp8 q = 0 := if_pos k1
                  rw [hcl] at HN
                  clear hcl
                  have hsz := Hnx.out.size
                  have HO := Lib.hid (Hown.out.alloc (.cells #[.int .i64 (0)] 3))
                  go_wp2_with (at_builtin; go_must (refine wpList_append_own _ rfl _ _ 22 rfl w.heap.size 3 i0 (.int .i64 0) 1 8 Try.underlying22 hi hz0 hz1 hz2 rfl (by decide) _ (A * 8 + B) _ rfl HO.out ⟨wr.heap.size, 0, none⟩ 1 1 [.int .i64 (0)] rfl rfl (cell_one_new _ _ _) (ints_oneCell .i64 [(0)]) (by unfold maxLen; omega) (by omega) (by simp; omega) ?_; intro v' w3 hown hg hnil; have Hown' := Lib.hid hown; have Hgr := Lib.hid hg; clear hown hg hnil))
                  go_roundg (8 - (B + 1))
                  case measure => have := HgB.out; omega
                  case rel =>
                    refine ⟨B + 1, by omega, rfl, by go_num, ?_, grown_other Hown.out Hx.out (by decide) Hgr.out, ?_⟩
                    · have := Hown'.out
                      rw [← List.map_singleton, ← List.map_append, HN.out] at this
                      exact this
                    · refine (Hnx.out.alloc hsz _).grown Hgr.out (by simp; omega) ?_
                      intro j hj
                      exact (Hown.out.lt j hj).1
                · have hcl : dm.clamp8 q = 255 := by unfold dm.clamp8; rw [if_neg (by omega), if_pos k2]
                  rw [hcl] at HN
                  clear hcl
                  have hsz := Hnx.out.size
                  have HO := Lib.hid (Hown.out.alloc (.cells #[.int .i64 (255)] 3))
                  go_wp2_with (at_builtin; go_must (refine wpList_append_own _ rfl _ _ 22 rfl w.heap.size 3 i0 (.int .i64 0) 1 8 Try.underlying22 hi hz0 hz1 hz2 rfl (by decide) _ (A * 8 + B) _ rfl HO.out ⟨wr.heap.size, 0, none⟩ 1 1 [.int .i64 (255)] rfl rfl (cell_one_new _ _ _) (ints_oneCell .i64 [(255)]) (by unfold maxLen; omega) (by omega) (by simp; omega) ?_; intro v' w3 hown hg hnil; have Hown' := Lib.hid hown; have Hgr := Lib.hid hg; clear hown hg hnil))
                  go_roundg (8 - (B + 1))
                  case measure => have := HgB.out; omega
                  case rel =>
                    refine ⟨B + 1, by omega, rfl, by go_num, ?_, grown_other Hown.out Hx.out (by decide) Hgr.out, ?_⟩
                    · have := Hown'.out
                      rw [← List.map_singleton, ← List.map_append, HN.out] at this
                      exact this
                    · refine (Hnx.out.alloc hsz _).grown Hgr.out (by simp; omega) ?_
                      intro j hj
                      exact (Hown.out.lt j hj).1
                · have hcl : dm.clamp8 q = q + 128 := by unfold dm.clamp8; rw [if_neg (by omega), if_neg (by omega)]
                  rw [hcl] at HN
                  clear hcl
                  have hsz := Hnx.out.size
                  have HO := Lib.hid (Hown.out.alloc (.cells #[.int .i64 ((q + 128))] 3))
                  go_wp2_with (at_builtin; go_must (refine wpList_append_own _ rfl _ _ 22 rfl w.heap.size 3 i0 (.int .i64 0) 1 8 Try.underlying22 hi hz0 hz1 hz2 rfl (by decide) _ (A * 8 + B) _ rfl HO.out ⟨wr.heap.size, 0, none⟩ 1 1 [.int .i64 ((q + 128))] rfl rfl (cell_one_new _ _ _) (ints_oneCell .i64 [((q + 128))]) (by unfold maxLen; omega) (by omega) (by simp; omega) ?_; intro v' w3 hown hg hnil; have Hown' := Lib.hid hown; have Hgr := Lib.hid hg; clear hown hg hnil))
                  go_roundg (8 - (B + 1))
                  case measure => have := HgB.out; omega
                  case rel =>
                    refine ⟨B + 1, by omega, rfl, by go_num, ?_, grown_other Hown.out Hx.out (by decide) Hgr.out, ?_⟩
                    · have := Hown'.out
                      rw [← List.map_singleton, ← List.map_append, HN.out] at this
                      exact this
                    · refine (Hnx.out.alloc hsz _).grown Hgr.out (by simp; omega) ?_
                      intro j hj
                      exact (Hown.out.lt j hj).1
          · obtain rfl : B = 8 := by omega
            go_wp2_with fail
            go_roundg (8 - (A + 1))
            case measure => have := HgA.out; omega
            case rel => exact ⟨A + 1, by omega, rfl, by go_num, by have := Hown.out; rw [show A * 8 + 8 = (A + 1) * 8 by omega] at this; exact this, Hx.out, Hnx.out⟩
      · obtain rfl : A = 8 := by omega
        go_wp2_with fail
        go_ret2
        refine ⟨.inr ⟨rfl, _, rfl, fresh_of Hown.out ?_⟩, Hnx.out⟩
        rintro rfl
        rcases Hown.out.2 with ⟨_, h'⟩ | ⟨g, cap', cur, h', _⟩
        · cases h'
        · cases h'
  · have H0 := Lib.hid h0
    obtain ⟨er, her⟩ : ∃ er, er = dm.fitE l (-1048576) 1048576 := ⟨_, rfl⟩
    rw [← her] at H0 HF h0 ⊢
    clear hn hm hr her
    go_enter Try.func14, Try.ntmps14
    go_wp2_with fail
    go_must (refine HF.out.mono ?_)
    rintro e wx ⟨rfl, rfl⟩
    go_wp2_with fail
    go_ret2
    exact ⟨.inl ⟨H0.out, rfl⟩, Below.refl _ _⟩
end Go.Proofs.Ytdpccgnmlfakfaa

