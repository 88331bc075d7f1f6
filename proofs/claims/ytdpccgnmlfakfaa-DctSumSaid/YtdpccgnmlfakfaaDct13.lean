/- The walks of the reference's Divide and Multiply. -/
import Derived.Test.YtdpccgnmlfakfaaDct12
import Derived.Laws.BitsLemmas
namespace Go.Proofs.Ytdpccgnmlfakfaa
open Go.RowKit
theorem wr64 {n : Int} (h : -9223372036854775808 ≤ n) (h' : n ≤ 9223372036854775807) : IntKind.i64.wrap n = n := by
  rw [IntKind.wrap_i64]; omega

set_option maxRecDepth 100000 in
set_option maxHeartbeats 3200000 in
theorem refDivide_any (a1 a2 : Option Addr) (n1 n2 c1 c2 : Nat) (l1 l2 : List Int) (w : World) (h1 : l1.length = n1) (h2 : l2.length = n2) (hm1 : n1 ≤ maxLen) (hm2 : n2 ≤ maxLen) (hr1 : Rd .i64 w a1 l1) (hr2 : Rd .i64 w a2 l2) :
    Calls Try.prog 21 #[.slice a1 n1 c1, .slice a2 n2 c2] w fun e w' => AnsPost 64 (dm.twoL dm.divF l1 l2) (dm.twoE l1 l2 1048576) w e w' := by
  by_cases hn1 : n1 = 64
  case neg =>
    rw [dm.twoE_long (.inl (by omega))]
    have hn1' : ¬ (n1 : Int) = 64 := by omega
    clear h1 h2 hm1 hm2 hr1 hr2 hn1
    go_enter Try.func21, Try.ntmps21
    go_wp2_with fail
    go_ret2
    exact ⟨.inl ⟨by decide, rfl⟩, Below.refl _ _⟩
  by_cases hn2 : n2 = 64
  case neg =>
    rw [dm.twoE_long (.inr (by omega))]
    have hn2' : ¬ (n2 : Int) = 64 := by omega
    subst hn1
    clear h1 h2 hm1 hm2 hr1 hr2 hn2
    go_enter Try.func21, Try.ntmps21
    go_wp2_with fail
    go_ret2
    exact ⟨.inl ⟨by decide, rfl⟩, Below.refl _ _⟩
  subst hn1
  subst hn2
  have F2 := Lib.hid (within_any a2 64 c2 l2 1 65535 w h2 hm2 hr2)
  have F1 := Lib.hid (within_any a1 64 c1 l1 (-1048576) 1048576 w h1 hm1 hr1)
  by_cases he2 : dm.fitE l2 1 65535 = 0
  case neg =>
    rw [dm.twoE_bad h1 h2 (.inl he2)]
    obtain ⟨er, her⟩ : ∃ er, er = dm.fitE l2 1 65535 := ⟨_, rfl⟩
    rw [← her] at he2 F2
    clear h1 h2 hm1 hm2 hr1 hr2 her F1
    go_enter Try.func21, Try.ntmps21
    go_wp2_with fail
    go_must (refine F2.out.mono ?_)
    rintro e wx ⟨rfl, rfl⟩
    go_wp2_with fail
    go_ret2
    exact ⟨.inl ⟨by decide, rfl⟩, Below.refl _ _⟩
  by_cases he1 : dm.fitE l1 (-1048576) 1048576 = 0
  case neg =>
    rw [dm.twoE_bad h1 h2 (.inr he1)]
    obtain ⟨er, her⟩ : ∃ er, er = dm.fitE l1 (-1048576) 1048576 := ⟨_, rfl⟩
    rw [← her] at he1 F1
    rw [he2] at F2
    clear h1 h2 hm1 hm2 hr1 hr2 her he2
    go_enter Try.func21, Try.ntmps21
    go_wp2_with fail
    go_must (refine F2.out.mono ?_)
    rintro e wx ⟨rfl, rfl⟩
    go_wp2_with fail
    go_must (refine F1.out.mono ?_)
    rintro e wx ⟨rfl, rfl⟩
    go_wp2_with fail
    go_ret2
    exact ⟨.inl ⟨by decide, rfl⟩, Below.refl _ _⟩
  rw [dm.twoE_ok he2 he1]
  obtain ⟨b1, o1, rfl⟩ := hr1.at (by omega)
  obtain ⟨b2, o2, rfl⟩ := hr2.at (by omega)
  have hlt1 : b1 < w.heap.size := block_lt_of_cell (hr1.cell 0 (by omega))
  have hlt2 : b2 < w.heap.size := block_lt_of_cell (hr2.cell 0 (by omega))
  have HA2 := Lib.hid (fun k hk => dm.fitE_at he2 k hk)
  have HA1 := Lib.hid (fun k hk => dm.fitE_at he1 k hk)
  rw [he2] at F2
  rw [he1] at F1
  have R1 := Lib.hid hr1
  have R2 := Lib.hid hr2
  have L1 := Lib.hid h1
  have L2 := Lib.hid h2
  obtain ⟨i0, hi, hz0, hz1, hz2⟩ := info_parts infoInt0
  clear h1 h2 hm1 hm2 hr1 hr2 he1 he2
  go_enter Try.func21, Try.ntmps21
  go_wp2_with fail
  go_must (refine F2.out.mono ?_)
  rintro e wx ⟨rfl, rfl⟩
  go_wp2_with fail
  go_must (refine F1.out.mono ?_)
  rintro e wx ⟨rfl, rfl⟩
  go_wp2_with fail
  clear F1 F2
  go_loopg [6, 7] 64 (fun gk v s wr => ∃ k : Nat, k ≤ 64 ∧ gk = 64 - k ∧ s = .int .i64 k ∧ wr.ownsRow w.heap.size 3 1 v k (((dm.twoL dm.divF l1 l2).take k).map (Value.int .i64)) ∧ Below w.heap.size w wr)
  case atStart => exact ⟨0, by omega, rfl, rfl, World.ownsRow_nil _ _ _ _, Below.refl _ _⟩
  case round =>
    obtain ⟨k, hk, hg, rfl, hown, hnx⟩ := hrel
    have Hg := Lib.hid hg
    have Hown := Lib.hid hown
    have Hnx := Lib.hid hnx
    clear hg hown hnx
    by_cases hlt : k < 64
    · have x1 := (R1.out.below Hnx.out).cell k (by rw [L1.out]; exact hlt)
      have x2 := (R2.out.below Hnx.out).cell k (by rw [L2.out]; exact hlt)
      obtain ⟨y1, y2⟩ := HA1.out k hlt
      obtain ⟨y3, y4⟩ := HA2.out k hlt
      have hk64 : (k : Int) < 64 := by omega
      have HN : Hid ((dm.twoL dm.divF l1 l2).take k ++ [dm.divF (l1.getD k 0) (l2.getD k 0)] = (dm.twoL dm.divF l1 l2).take (k + 1)) := Lib.hid (dm.take_range (f := dm.twoAt dm.divF l1 l2) hlt)
      have hsz := Hnx.out.size
      have hne1 : some b1 ≠ u6.ownBlock := fun e => by have := (Hown.out.lt _ e.symm).1; omega
      have hne2 : some b2 ≠ u6.ownBlock := fun e => by have := (Hown.out.lt _ e.symm).1; omega
      have Z1 : Hid (∀ o : Obj, (wr.drew.alloc o).cell? ⟨b1, o1 + k, none⟩ = some (.int .i64 (l1.getD k 0))) := Lib.hid (fun o => (World.cell?_alloc_lt _ _ _ (by show b1 < wr.heap.size; omega)).trans x1)
      have Z2 : Hid (∀ o : Obj, (wr.drew.alloc o).cell? ⟨b2, o2 + k, none⟩ = some (.int .i64 (l2.getD k 0))) := Lib.hid (fun o => (World.cell?_alloc_lt _ _ _ (by show b2 < wr.heap.size; omega)).trans x2)
      have HX1 : Hid (wr.drew.cell? ⟨b1, o1 + k, none⟩ = some (.int .i64 (l1.getD k 0))) := Lib.hid x1
      have HX2 : Hid (wr.drew.cell? ⟨b2, o2 + k, none⟩ = some (.int .i64 (l2.getD k 0))) := Lib.hid x2
      have N1 := Lib.hid hne1
      have N2 := Lib.hid hne2
      have HD : Hid (Below w.heap.size w wr.drew) := Lib.hid Hnx.out.drew
      have HOd : Hid (wr.drew.ownsRow w.heap.size 3 1 u6 k (((dm.twoL dm.divF l1 l2).take k).map (Value.int .i64))) := Lib.hid Hown.out
      clear hne1 hne2
      generalize l1.getD k 0 = cv at *
      generalize l2.getD k 0 = qv at *
      by_cases hc0 : cv < 0
      · obtain ⟨k1, k2⟩ := dm.quo_range (a := qv - 2 * cv) (b := 2 * qv) (by omega) (by omega)
        rw [dm.divF_neg hc0] at HN
        have e0 : -2 * cv + qv = qv - 2 * cv := by omega
        have e1 : -(2 * cv) + qv = qv - 2 * cv := by omega
        have hx2 : Int.tdiv (qv - 2 * cv) (2 * qv) = (qv - 2 * cv) / (2 * qv) := Int.tdiv_eq_ediv_of_nonneg (by omega)
        have hx3 : Int.tdiv (-2 * cv + qv) (2 * qv) = (qv - 2 * cv) / (2 * qv) := by rw [e0]; exact hx2
        have hx4 : (-2 * cv + qv) / (2 * qv) = (qv - 2 * cv) / (2 * qv) := by rw [e0]
        obtain ⟨x, hx⟩ : ∃ x, x = (qv - 2 * cv) / (2 * qv) := ⟨_, rfl⟩
        have w1 : IntKind.i64.wrap (-2 * cv) = -2 * cv := wr64 (by omega) (by omega)
        have w2 : IntKind.i64.wrap (-2 * cv + qv) = -2 * cv + qv := wr64 (by omega) (by omega)
        have w1' : IntKind.i64.wrap (-(2 * cv)) = -2 * cv := (wr64 (by omega) (by omega)).trans (by omega)
        have w3 : IntKind.i64.wrap (2 * qv) = 2 * qv := wr64 (by omega) (by omega)
        rw [← hx] at k1 k2 hx2 hx3 hx4 HN
        have w4 : IntKind.i64.wrap x = x := wr64 (by omega) (by omega)
        have w5 : IntKind.i64.wrap (-x) = -x := wr64 (by omega) (by omega)
        have hx1 := hx.symm
        clear hx e0 e1
        have hq0 : ¬ 2 * qv = 0 := by omega
        have hq00 : ¬ qv = 0 := by omega
        have HO := Lib.hid (HOd.out.alloc (.cells #[.int .i64 (-x)] 3))
        go_wp2_with fail
        go_region_held3 (fun w' => w'.cell? ⟨b2, o2 + k, none⟩ = some (.int .i64 qv))
          (first
            | (exact HX2.out)
            | (exact Z2.out _)
            | (exact Hgr.out.cell (Z2.out _) N2.out))
          (first | (rw [if_pos (by rfl)]; refine wp_append_own _ _ _ 22 rfl w.heap.size 3 i0 (.int .i64 0) 1 8 Try.underlying22 hi hz0 hz1 hz2 rfl (by decide) _ k _ rfl HO.out ⟨wr.heap.size, 0, none⟩ 1 1 [.int .i64 (-x)] rfl rfl (fun j u h => cell_one_new wr _ _ j u h) (ints_oneCell .i64 [(-x)]) (by unfold maxLen; omega) (by omega) (by show w.heap.size ≤ (wr.drew.alloc _).heap.size; simp; omega) ?_; intro v' w3 hown hg hnil; have Hown' := Lib.hid hown; have Hgr := Lib.hid hg; clear hown hg hnil))
        go_wp2_with fail
        go_roundg (64 - (k + 1))
        case measure => have := Hg.out; omega
        case rel =>
          refine ⟨k + 1, by omega, rfl, by go_num, ?_, ?_⟩
          · have := Hown'.out
            rw [← List.map_singleton, ← List.map_append, HN.out] at this
            exact this
          · refine (HD.out.alloc (by show w.heap.size ≤ wr.heap.size; exact hsz) _).grown Hgr.out (by show w.heap.size ≤ (wr.drew.alloc _).heap.size; simp; omega) ?_
            intro j hj
            exact (Hown.out.lt j hj).1
      · obtain ⟨k1, k2⟩ := dm.quo_range (a := 2 * cv + qv) (b := 2 * qv) (by omega) (by omega)
        rw [dm.divF_pos hc0] at HN
        have hx2 : Int.tdiv (2 * cv + qv) (2 * qv) = (2 * cv + qv) / (2 * qv) := Int.tdiv_eq_ediv_of_nonneg (by omega)
        obtain ⟨x, hx⟩ : ∃ x, x = (2 * cv + qv) / (2 * qv) := ⟨_, rfl⟩
        have w1 : IntKind.i64.wrap (2 * cv) = 2 * cv := wr64 (by omega) (by omega)
        have w2 : IntKind.i64.wrap (2 * cv + qv) = 2 * cv + qv := wr64 (by omega) (by omega)
        have w3 : IntKind.i64.wrap (2 * qv) = 2 * qv := wr64 (by omega) (by omega)
        rw [← hx] at k1 k2 hx2 HN
        have w4 : IntKind.i64.wrap x = x := wr64 (by omega) (by omega)
        have hx1 := hx.symm
        clear hx
        have hq0 : ¬ 2 * qv = 0 := by omega
        have hq00 : ¬ qv = 0 := by omega
        have HO := Lib.hid (HOd.out.alloc (.cells #[.int .i64 (x)] 3))
        go_wp2_with fail
        go_region_held3 (fun w' => w'.cell? ⟨b2, o2 + k, none⟩ = some (.int .i64 qv))
          (first
            | (exact HX2.out)
            | (exact Z2.out _)
            | (exact Hgr.out.cell (Z2.out _) N2.out))
          (first | (rw [if_pos (by rfl)]; refine wp_append_own _ _ _ 22 rfl w.heap.size 3 i0 (.int .i64 0) 1 8 Try.underlying22 hi hz0 hz1 hz2 rfl (by decide) _ k _ rfl HO.out ⟨wr.heap.size, 0, none⟩ 1 1 [.int .i64 (x)] rfl rfl (fun j u h => cell_one_new wr _ _ j u h) (ints_oneCell .i64 [(x)]) (by unfold maxLen; omega) (by omega) (by show w.heap.size ≤ (wr.drew.alloc _).heap.size; simp; omega) ?_; intro v' w3 hown hg hnil; have Hown' := Lib.hid hown; have Hgr := Lib.hid hg; clear hown hg hnil))
        go_wp2_with fail
        go_roundg (64 - (k + 1))
        case measure => have := Hg.out; omega
        case rel =>
          refine ⟨k + 1, by omega, rfl, by go_num, ?_, ?_⟩
          · have := Hown'.out
            rw [← List.map_singleton, ← List.map_append, HN.out] at this
            exact this
          · refine (HD.out.alloc (by show w.heap.size ≤ wr.heap.size; exact hsz) _).grown Hgr.out (by show w.heap.size ≤ (wr.drew.alloc _).heap.size; simp; omega) ?_
            intro j hj
            exact (Hown.out.lt j hj).1
    · obtain rfl : k = 64 := by omega
      have HZ : Hid (wr.ownsRow w.heap.size 3 1 _ 64 ((dm.twoL dm.divF l1 l2).map (Value.int .i64))) := Lib.hid Hown.out
      go_wp2_with fail
      go_ret2
      exact ⟨.inr ⟨rfl, _, rfl, fresh_own HZ.out (by decide)⟩, Hnx.out⟩

set_option maxRecDepth 100000 in
set_option maxHeartbeats 3200000 in
theorem refMultiply_any (a1 a2 : Option Addr) (n1 n2 c1 c2 : Nat) (l1 l2 : List Int) (w : World) (h1 : l1.length = n1) (h2 : l2.length = n2) (hm1 : n1 ≤ maxLen) (hm2 : n2 ≤ maxLen) (hr1 : Rd .i64 w a1 l1) (hr2 : Rd .i64 w a2 l2) :
    Calls Try.prog 23 #[.slice a1 n1 c1, .slice a2 n2 c2] w fun e w' => AnsPost 64 (dm.twoL dm.mulF l1 l2) (dm.twoE l1 l2 32768) w e w' := by
  by_cases hn1 : n1 = 64
  case neg =>
    rw [dm.twoE_long (.inl (by omega))]
    have hn1' : ¬ (n1 : Int) = 64 := by omega
    clear h1 h2 hm1 hm2 hr1 hr2 hn1
    go_enter Try.func23, Try.ntmps23
    go_wp2_with fail
    go_ret2
    exact ⟨.inl ⟨by decide, rfl⟩, Below.refl _ _⟩
  by_cases hn2 : n2 = 64
  case neg =>
    rw [dm.twoE_long (.inr (by omega))]
    have hn2' : ¬ (n2 : Int) = 64 := by omega
    subst hn1
    clear h1 h2 hm1 hm2 hr1 hr2 hn2
    go_enter Try.func23, Try.ntmps23
    go_wp2_with fail
    go_ret2
    exact ⟨.inl ⟨by decide, rfl⟩, Below.refl _ _⟩
  subst hn1
  subst hn2
  have F2 := Lib.hid (within_any a2 64 c2 l2 1 65535 w h2 hm2 hr2)
  have F1 := Lib.hid (within_any a1 64 c1 l1 (-32768) 32768 w h1 hm1 hr1)
  by_cases he2 : dm.fitE l2 1 65535 = 0
  case neg =>
    rw [dm.twoE_bad h1 h2 (.inl he2)]
    obtain ⟨er, her⟩ : ∃ er, er = dm.fitE l2 1 65535 := ⟨_, rfl⟩
    rw [← her] at he2 F2
    clear h1 h2 hm1 hm2 hr1 hr2 her F1
    go_enter Try.func23, Try.ntmps23
    go_wp2_with fail
    go_must (refine F2.out.mono ?_)
    rintro e wx ⟨rfl, rfl⟩
    go_wp2_with fail
    go_ret2
    exact ⟨.inl ⟨by decide, rfl⟩, Below.refl _ _⟩
  by_cases he1 : dm.fitE l1 (-32768) 32768 = 0
  case neg =>
    rw [dm.twoE_bad h1 h2 (.inr he1)]
    obtain ⟨er, her⟩ : ∃ er, er = dm.fitE l1 (-32768) 32768 := ⟨_, rfl⟩
    rw [← her] at he1 F1
    rw [he2] at F2
    clear h1 h2 hm1 hm2 hr1 hr2 her he2
    go_enter Try.func23, Try.ntmps23
    go_wp2_with fail
    go_must (refine F2.out.mono ?_)
    rintro e wx ⟨rfl, rfl⟩
    go_wp2_with fail
    go_must (refine F1.out.mono ?_)
    rintro e wx ⟨rfl, rfl⟩
    go_wp2_with fail
    go_ret2
    exact ⟨.inl ⟨by decide, rfl⟩, Below.refl _ _⟩
  rw [dm.twoE_ok he2 he1]
  obtain ⟨b1, o1, rfl⟩ := hr1.at (by omega)
  obtain ⟨b2, o2, rfl⟩ := hr2.at (by omega)
  have hlt1 : b1 < w.heap.size := block_lt_of_cell (hr1.cell 0 (by omega))
  have hlt2 : b2 < w.heap.size := block_lt_of_cell (hr2.cell 0 (by omega))
  have HA2 := Lib.hid (fun k hk => dm.fitE_at he2 k hk)
  have HA1 := Lib.hid (fun k hk => dm.fitE_at he1 k hk)
  rw [he2] at F2
  rw [he1] at F1
  have R1 := Lib.hid hr1
  have R2 := Lib.hid hr2
  have L1 := Lib.hid h1
  have L2 := Lib.hid h2
  obtain ⟨i0, hi, hz0, hz1, hz2⟩ := info_parts infoInt0
  clear h1 h2 hm1 hm2 hr1 hr2 he1 he2
  go_enter Try.func23, Try.ntmps23
  go_wp2_with fail
  go_must (refine F2.out.mono ?_)
  rintro e wx ⟨rfl, rfl⟩
  go_wp2_with fail
  go_must (refine F1.out.mono ?_)
  rintro e wx ⟨rfl, rfl⟩
  go_wp2_with fail
  clear F1 F2
  go_loopg [6, 7] 64 (fun gk v s wr => ∃ k : Nat, k ≤ 64 ∧ gk = 64 - k ∧ s = .int .i64 k ∧ wr.ownsRow w.heap.size 3 1 v k (((dm.twoL dm.mulF l1 l2).take k).map (Value.int .i64)) ∧ Below w.heap.size w wr)
  case atStart => exact ⟨0, by omega, rfl, rfl, World.ownsRow_nil _ _ _ _, Below.refl _ _⟩
  case round =>
    obtain ⟨k, hk, hg, rfl, hown, hnx⟩ := hrel
    have Hg := Lib.hid hg
    have Hown := Lib.hid hown
    have Hnx := Lib.hid hnx
    clear hg hown hnx
    by_cases hlt : k < 64
    · have x1 := (R1.out.below Hnx.out).cell k (by rw [L1.out]; exact hlt)
      have x2 := (R2.out.below Hnx.out).cell k (by rw [L2.out]; exact hlt)
      obtain ⟨y1, y2⟩ := HA1.out k hlt
      obtain ⟨y3, y4⟩ := HA2.out k hlt
      have hk64 : (k : Int) < 64 := by omega
      have HN : Hid ((dm.twoL dm.mulF l1 l2).take k ++ [dm.mulF (l1.getD k 0) (l2.getD k 0)] = (dm.twoL dm.mulF l1 l2).take (k + 1)) := Lib.hid (dm.take_range (f := dm.twoAt dm.mulF l1 l2) hlt)
      have hsz := Hnx.out.size
      have hne1 : some b1 ≠ u6.ownBlock := fun e => by have := (Hown.out.lt _ e.symm).1; omega
      have hne2 : some b2 ≠ u6.ownBlock := fun e => by have := (Hown.out.lt _ e.symm).1; omega
      have Z1 : Hid (∀ o : Obj, (wr.drew.alloc o).cell? ⟨b1, o1 + k, none⟩ = some (.int .i64 (l1.getD k 0))) := Lib.hid (fun o => (World.cell?_alloc_lt _ _ _ (by show b1 < wr.heap.size; omega)).trans x1)
      have Z2 : Hid (∀ o : Obj, (wr.drew.alloc o).cell? ⟨b2, o2 + k, none⟩ = some (.int .i64 (l2.getD k 0))) := Lib.hid (fun o => (World.cell?_alloc_lt _ _ _ (by show b2 < wr.heap.size; omega)).trans x2)
      have HX1 : Hid (wr.drew.cell? ⟨b1, o1 + k, none⟩ = some (.int .i64 (l1.getD k 0))) := Lib.hid x1
      have HX2 : Hid (wr.drew.cell? ⟨b2, o2 + k, none⟩ = some (.int .i64 (l2.getD k 0))) := Lib.hid x2
      have N1 := Lib.hid hne1
      have N2 := Lib.hid hne2
      have HD : Hid (Below w.heap.size w wr.drew) := Lib.hid Hnx.out.drew
      have HOd : Hid (wr.drew.ownsRow w.heap.size 3 1 u6 k (((dm.twoL dm.mulF l1 l2).take k).map (Value.int .i64))) := Lib.hid Hown.out
      clear hne1 hne2
      generalize l1.getD k 0 = cv at *
      generalize l2.getD k 0 = qv at *
      obtain ⟨k1, k2⟩ := dm.mulF_range y1 y2 y3 y4
      unfold dm.mulF at k1 k2
      have w1 : IntKind.i64.wrap (cv * qv) = cv * qv := wr64 (by omega) (by omega)
      have hN := HN.out
      rw [show dm.mulF cv qv = cv * qv from rfl] at hN
      have HN := Lib.hid hN
      clear hN
      have HO := Lib.hid (HOd.out.alloc (.cells #[.int .i64 (cv * qv)] 3))
      go_wp2_with fail
      go_region_held3 (fun w' => w'.cell? ⟨b1, o1 + k, none⟩ = some (.int .i64 cv) ∧ w'.cell? ⟨b2, o2 + k, none⟩ = some (.int .i64 qv))
        (first
          | (exact ⟨HX1.out, HX2.out⟩)
          | (exact ⟨Z1.out _, Z2.out _⟩)
          | (exact ⟨Hgr.out.cell (Z1.out _) N1.out, Hgr.out.cell (Z2.out _) N2.out⟩))
        (first | (rw [if_pos (by rfl)]; refine wp_append_own _ _ _ 22 rfl w.heap.size 3 i0 (.int .i64 0) 1 8 Try.underlying22 hi hz0 hz1 hz2 rfl (by decide) _ k _ rfl HO.out ⟨wr.heap.size, 0, none⟩ 1 1 [.int .i64 (cv * qv)] rfl rfl (fun j u h => cell_one_new wr _ _ j u h) (ints_oneCell .i64 [(cv * qv)]) (by unfold maxLen; omega) (by omega) (by show w.heap.size ≤ (wr.drew.alloc _).heap.size; simp; omega) ?_; intro v' w3 hown hg hnil; have Hown' := Lib.hid hown; have Hgr := Lib.hid hg; clear hown hg hnil))
      go_wp2_with fail
      go_roundg (64 - (k + 1))
      case measure => have := Hg.out; omega
      case rel =>
        refine ⟨k + 1, by omega, rfl, by go_num, ?_, ?_⟩
        · have := Hown'.out
          rw [← List.map_singleton, ← List.map_append, HN.out] at this
          exact this
        · refine (HD.out.alloc (by show w.heap.size ≤ wr.heap.size; exact hsz) _).grown Hgr.out (by show w.heap.size ≤ (wr.drew.alloc _).heap.size; simp; omega) ?_
          intro j hj
          exact (Hown.out.lt j hj).1
    · obtain rfl : k = 64 := by omega
      have HZ : Hid (wr.ownsRow w.heap.size 3 1 _ 64 ((dm.twoL dm.mulF l1 l2).map (Value.int .i64))) := Lib.hid Hown.out
      go_wp2_with fail
      go_ret2
      exact ⟨.inr ⟨rfl, _, rfl, fresh_own HZ.out (by decide)⟩, Hnx.out⟩
end Go.Proofs.Ytdpccgnmlfakfaa

