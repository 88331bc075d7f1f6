/- The walks of two at its two closures, of Divide and Multiply. -/
import Derived.Test.YtdpccgnmlfakfaaDct11
import Derived.Test.YtdpccgnmlfakfaaDctMath5
import Derived.Test.YtdpccgnmlfakfaaDctLaw0
import Derived.Deep.RegionHeld3
namespace Go.Proofs.Ytdpccgnmlfakfaa
open Go.RowKit

set_option maxRecDepth 100000 in
theorem divide1_any (c q : Int) (w : World) (hc : -1048576 ≤ c) (hc' : c ≤ 1048576) (hq : 1 ≤ q) (hq' : q ≤ 65535) : Calls Try.prog 35 #[.int .i64 c, .int .i64 q] w fun e w' => e = .returned (.int .i64 (dm.divF c q)) ∧ w = w' := by
  by_cases h : c < 0
  · obtain ⟨k1, k2⟩ := dm.quo_range (a := q - 2 * c) (b := 2 * q) (by omega) (by omega)
    rw [dm.divF_neg h]
    have hx2 : Int.tdiv (q - 2 * c) (2 * q) = (q - 2 * c) / (2 * q) := Int.tdiv_eq_ediv_of_nonneg (by omega)
    obtain ⟨x, hx⟩ : ∃ x, x = (q - 2 * c) / (2 * q) := ⟨_, rfl⟩
    rw [← hx] at k1 k2 hx2 ⊢
    have hx1 := hx.symm
    clear hx
    have hq0 : ¬ 2 * q = 0 := by omega
    go_enter Try.func35, Try.ntmps35
    go_wp2_with fail
    go_ret
    exact ⟨rfl, rfl⟩
  · obtain ⟨k1, k2⟩ := dm.quo_range (a := 2 * c + q) (b := 2 * q) (by omega) (by omega)
    rw [dm.divF_pos h]
    have hx2 : Int.tdiv (2 * c + q) (2 * q) = (2 * c + q) / (2 * q) := Int.tdiv_eq_ediv_of_nonneg (by omega)
    obtain ⟨x, hx⟩ : ∃ x, x = (2 * c + q) / (2 * q) := ⟨_, rfl⟩
    rw [← hx] at k1 k2 hx2 ⊢
    have hx1 := hx.symm
    clear hx
    have hq0 : ¬ 2 * q = 0 := by omega
    go_enter Try.func35, Try.ntmps35
    go_wp2_with fail
    go_ret
    exact ⟨rfl, rfl⟩
theorem multiply1_any (c q : Int) (w : World) (hc : -32768 ≤ c) (hc' : c ≤ 32768) (hq : 1 ≤ q) (hq' : q ≤ 65535) : Calls Try.prog 36 #[.int .i64 c, .int .i64 q] w fun e w' => e = .returned (.int .i64 (dm.mulF c q)) ∧ w = w' := by
  obtain ⟨k1, k2⟩ := dm.mulF_range hc hc' hq hq'
  unfold dm.mulF at *
  go_enter Try.func36, Try.ntmps36
  go_wp2_with fail
  go_ret
  exact ⟨rfl, rfl⟩

set_option maxRecDepth 100000 in
set_option maxHeartbeats 3200000 in
theorem twoDivide_any (a1 a2 : Option Addr) (n1 n2 c1 c2 : Nat) (l1 l2 : List Int) (w : World) (h1 : l1.length = n1) (h2 : l2.length = n2) (hm1 : n1 ≤ maxLen) (hm2 : n2 ≤ maxLen) (hr1 : Rd .i64 w a1 l1) (hr2 : Rd .i64 w a2 l2) :
    Calls Try.prog 34 #[.slice a1 n1 c1, .slice a2 n2 c2, .int .i64 1048576, .func (.func 35) #[] #[]] w fun e w' => AnsPost 64 (dm.twoL dm.divF l1 l2) (dm.twoE l1 l2 1048576) w e w' := by
  by_cases hn1 : n1 = 64
  case neg =>
    rw [dm.twoE_long (.inl (by omega))]
    have hn1' : ¬ (n1 : Int) = 64 := by omega
    clear h1 h2 hm1 hm2 hr1 hr2 hn1
    go_enter Try.func34, Try.ntmps34
    go_wp2_with fail
    go_ret2
    exact ⟨.inl ⟨by decide, rfl⟩, Below.refl _ _⟩
  by_cases hn2 : n2 = 64
  case neg =>
    rw [dm.twoE_long (.inr (by omega))]
    have hn2' : ¬ (n2 : Int) = 64 := by omega
    subst hn1
    clear h1 h2 hm1 hm2 hr1 hr2 hn2
    go_enter Try.func34, Try.ntmps34
    go_wp2_with fail
    go_ret2
    exact ⟨.inl ⟨by decide, rfl⟩, Below.refl _ _⟩
  subst hn1
  subst hn2
  have F2 := Lib.hid (fit_any a2 64 c2 l2 1 65535 w h2 hm2 hr2)
  have F1 := Lib.hid (fit_any a1 64 c1 l1 (-1048576) 1048576 w h1 hm1 hr1)
  by_cases he2 : dm.fitE l2 1 65535 = 0
  case neg =>
    rw [dm.twoE_bad h1 h2 (.inl he2)]
    obtain ⟨er, her⟩ : ∃ er, er = dm.fitE l2 1 65535 := ⟨_, rfl⟩
    rw [← her] at he2 F2
    clear h1 h2 hm1 hm2 hr1 hr2 her F1
    go_enter Try.func34, Try.ntmps34
    go_wp2_with fail
    go_must (refine F2.out.mono ?_)
    rintro e wx ⟨rfl, rfl⟩
    go_wp2_with fail
    go_ret2
    exact ⟨.inl ⟨by decide, rfl⟩, Below.refl _ _⟩
  by_cases he1 : dm.fitE l1 (-1048576) 1048576 = 0
  case neg =>
    rw [dm.twoE_bad h1 h2 (.inr he1)]
    obtain ⟨er, her⟩ : ∃ er, er = dm.fitE l1 (-1048576) 1048576 := ⟨_, rfl⟩
    rw [← her] at he1 F1
    rw [he2] at F2
    clear h1 h2 hm1 hm2 hr1 hr2 her he2
    go_enter Try.func34, Try.ntmps34
    go_wp2_with fail
    go_must (refine F2.out.mono ?_)
    rintro e wx ⟨rfl, rfl⟩
    go_wp2_with fail
    go_must (refine F1.out.mono ?_)
    rintro e wx ⟨rfl, rfl⟩
    go_wp2_with fail
    go_ret2
    exact ⟨.inl ⟨by decide, rfl⟩, Below.refl _ _⟩
  rw [dm.twoE_ok he2 he1]
  obtain ⟨b1, o1, rfl⟩ := hr1.at (by omega)
  obtain ⟨b2, o2, rfl⟩ := hr2.at (by omega)
  have hlt1 : b1 < w.heap.size := block_lt_of_cell (hr1.cell 0 (by omega))
  have hlt2 : b2 < w.heap.size := block_lt_of_cell (hr2.cell 0 (by omega))
  have HA2 := Lib.hid (fun k hk => dm.fitE_at he2 k hk)
  have HA1 := Lib.hid (fun k hk => dm.fitE_at he1 k hk)
  rw [he2] at F2
  rw [he1] at F1
  have R1 := Lib.hid hr1
  have R2 := Lib.hid hr2
  have L1 := Lib.hid h1
  have L2 := Lib.hid h2
  have hmk := make64f
  clear h1 h2 hm1 hm2 hr1 hr2 he1 he2
  go_enter Try.func34, Try.ntmps34
  go_wp2_with fail
  go_must (refine F2.out.mono ?_)
  rintro e wx ⟨rfl, rfl⟩
  go_wp2_with fail
  go_must (refine F1.out.mono ?_)
  rintro e wx ⟨rfl, rfl⟩
  go_wp2_with fail
  clear F1 F2
  go_loopg [34] 64 (fun gk s wr => ∃ k : Nat, k ≤ 64 ∧ gk = 64 - k ∧ s = .int .i64 k ∧ wr.heap[w.heap.size]? = some (.cells (ints (dm.partR (dm.twoAt dm.divF l1 l2) k)) 3 (0, 0)) ∧ Below w.heap.size w wr)
  case atStart => exact ⟨0, by omega, rfl, rfl, by rw [dm.partR_zero]; exact heap_alloc_new _ _, (Below.refl _ _).alloc (Nat.le_refl _) _⟩
  case round =>
    obtain ⟨k, hk, hg, rfl, hx, hnx⟩ := hrel
    have Hg := Lib.hid hg
    have Hx := Lib.hid hx
    have Hnx := Lib.hid hnx
    clear hg hx hnx hmk
    by_cases hlt : k < 64
    · have hc : wr.drew.cell? ⟨w.heap.size, k, none⟩ = some (.int .i64 ((dm.partR (dm.twoAt dm.divF l1 l2) k).getD k 0)) := ints_cell Hx.out k (by rw [dm.partR_length]; omega)
      have hf : wr.drew.frozen? ⟨w.heap.size, k, none⟩ = false := ints_free Hx.out k
      have x1 : wr.drew.cell? ⟨b1, o1 + k, none⟩ = _ := (R1.out.below Hnx.out).cell k (by rw [L1.out]; exact hlt)
      have x2 : wr.drew.cell? ⟨b2, o2 + k, none⟩ = _ := (R2.out.below Hnx.out).cell k (by rw [L2.out]; exact hlt)
      obtain ⟨y1, y2⟩ := HA1.out k hlt
      obtain ⟨y3, y4⟩ := HA2.out k hlt
      have hk64 : (k : Int) < 64 := by omega
      have HZ : Hid ((wr.drew.setCell ⟨w.heap.size, k, none⟩ (.int .i64 (dm.divF (l1.getD k 0) (l2.getD k 0)))).heap[w.heap.size]? = some (.cells (ints (dm.partR (dm.twoAt dm.divF l1 l2) (k + 1))) 3 (0, 0)) ∧ Below w.heap.size w (wr.drew.setCell ⟨w.heap.size, k, none⟩ (.int .i64 (dm.divF (l1.getD k 0) (l2.getD k 0))))) := Lib.hid (by
        refine ⟨?_, Hnx.out.drew.setCell (Nat.le_refl _) _⟩
        rw [ints_store (w := wr.drew) Hx.out k (dm.divF (l1.getD k 0) (l2.getD k 0))]
        rw [show dm.divF (l1.getD k 0) (l2.getD k 0) = dm.twoAt dm.divF l1 l2 k from rfl, dm.partR_set])
      have hfar1 : w.heap.size ≠ b1 := by omega
      have hfar2 : w.heap.size ≠ b2 := by omega
      generalize l1.getD k 0 = cv at *
      generalize l2.getD k 0 = qv at *
      generalize (dm.partR (dm.twoAt dm.divF l1 l2) k).getD k 0 = ov at *
      go_wp2_with fail
      go_region_held3 (fun w' => w'.cell? ⟨b1, o1 + k, none⟩ = some (.int .i64 cv) ∧ w'.cell? ⟨b2, o2 + k, none⟩ = some (.int .i64 qv))
        (first
          | (exact ⟨x1, x2⟩)
          | (exact ⟨(World.cell?_setCell_far _ _ _ _ hfar1).trans x1, (World.cell?_setCell_far _ _ _ _ hfar2).trans x2⟩))
        (first | (refine (divide1_any cv qv _ (by omega) (by omega) (by omega) (by omega)).mono ?_; rintro e wx ⟨rfl, rfl⟩))
      go_wp2_with fail
      obtain ⟨z0, z1⟩ := HZ.out
      go_roundg (64 - (k + 1))
      case measure => have := Hg.out; omega
      case rel => exact ⟨k + 1, by omega, rfl, by go_num, z0, z1⟩
    · obtain rfl : k = 64 := by omega
      have HX : Hid (wr.heap[w.heap.size]? = some (.cells (ints (dm.twoL dm.divF l1 l2)) 3 (0, 0))) := Lib.hid (by
        have := Hx.out
        rw [dm.partR_done] at this
        exact this)
      go_wp2_with fail
      go_ret2
      exact ⟨.inr ⟨rfl, _, rfl, fresh_cells HX.out (by simp [dm.twoL]) (Nat.le_refl _) (by decide)⟩, Hnx.out⟩

set_option maxRecDepth 100000 in
theorem divide_any (a1 a2 : Option Addr) (n1 n2 c1 c2 : Nat) (l1 l2 : List Int) (w : World) (h1 : l1.length = n1) (h2 : l2.length = n2) (hm1 : n1 ≤ maxLen) (hm2 : n2 ≤ maxLen) (hr1 : Rd .i64 w a1 l1) (hr2 : Rd .i64 w a2 l2) :
    Calls Try.prog 20 #[.slice a1 n1 c1, .slice a2 n2 c2] w fun e w' => AnsPost 64 (dm.twoL dm.divF l1 l2) (dm.twoE l1 l2 1048576) w e w' := by
  have T := Lib.hid (twoDivide_any a1 a2 n1 n2 c1 c2 l1 l2 w h1 h2 hm1 hm2 hr1 hr2)
  clear h1 h2 hm1 hm2 hr1 hr2
  go_enter Try.func20, Try.ntmps20
  go_wp2_with fail
  go_must (refine T.out.mono ?_)
  rintro e w1 ⟨h, hb⟩
  have HB := Lib.hid hb
  clear hb
  rcases h with ⟨hne, rfl⟩ | ⟨he, v, rfl, hv⟩
  · have HE := Lib.hid hne
    clear hne
    go_wp2_with fail
    go_ret2
    exact ⟨.inl ⟨HE.out, rfl⟩, HB.out⟩
  · have HV := Lib.hid hv
    have HE := Lib.hid he
    clear hv he
    go_wp2_with fail
    go_ret2
    exact ⟨.inr ⟨HE.out, v, rfl, HV.out⟩, HB.out⟩

set_option maxRecDepth 100000 in
set_option maxHeartbeats 3200000 in
theorem twoMultiply_any (a1 a2 : Option Addr) (n1 n2 c1 c2 : Nat) (l1 l2 : List Int) (w : World) (h1 : l1.length = n1) (h2 : l2.length = n2) (hm1 : n1 ≤ maxLen) (hm2 : n2 ≤ maxLen) (hr1 : Rd .i64 w a1 l1) (hr2 : Rd .i64 w a2 l2) :
    Calls Try.prog 34 #[.slice a1 n1 c1, .slice a2 n2 c2, .int .i64 32768, .func (.func 36) #[] #[]] w fun e w' => AnsPost 64 (dm.twoL dm.mulF l1 l2) (dm.twoE l1 l2 32768) w e w' := by
  by_cases hn1 : n1 = 64
  case neg =>
    rw [dm.twoE_long (.inl (by omega))]
    have hn1' : ¬ (n1 : Int) = 64 := by omega
    clear h1 h2 hm1 hm2 hr1 hr2 hn1
    go_enter Try.func34, Try.ntmps34
    go_wp2_with fail
    go_ret2
    exact ⟨.inl ⟨by decide, rfl⟩, Below.refl _ _⟩
  by_cases hn2 : n2 = 64
  case neg =>
    rw [dm.twoE_long (.inr (by omega))]
    have hn2' : ¬ (n2 : Int) = 64 := by omega
    subst hn1
    clear h1 h2 hm1 hm2 hr1 hr2 hn2
    go_enter Try.func34, Try.ntmps34
    go_wp2_with fail
    go_ret2
    exact ⟨.inl ⟨by decide, rfl⟩, Below.refl _ _⟩
  subst hn1
  subst hn2
  have F2 := Lib.hid (fit_any a2 64 c2 l2 1 65535 w h2 hm2 hr2)
  have F1 := Lib.hid (fit_any a1 64 c1 l1 (-32768) 32768 w h1 hm1 hr1)
  by_cases he2 : dm.fitE l2 1 65535 = 0
  case neg =>
    rw [dm.twoE_bad h1 h2 (.inl he2)]
    obtain ⟨er, her⟩ : ∃ er, er = dm.fitE l2 1 65535 := ⟨_, rfl⟩
    rw [← her] at he2 F2
    clear h1 h2 hm1 hm2 hr1 hr2 her F1
    go_enter Try.func34, Try.ntmps34
    go_wp2_with fail
    go_must (refine F2.out.mono ?_)
    rintro e wx ⟨rfl, rfl⟩
    go_wp2_with fail
    go_ret2
    exact ⟨.inl ⟨by decide, rfl⟩, Below.refl _ _⟩
  by_cases he1 : dm.fitE l1 (-32768) 32768 = 0
  case neg =>
    rw [dm.twoE_bad h1 h2 (.inr he1)]
    obtain ⟨er, her⟩ : ∃ er, er = dm.fitE l1 (-32768) 32768 := ⟨_, rfl⟩
    rw [← her] at he1 F1
    rw [he2] at F2
    clear h1 h2 hm1 hm2 hr1 hr2 her he2
    go_enter Try.func34, Try.ntmps34
    go_wp2_with fail
    go_must (refine F2.out.mono ?_)
    rintro e wx ⟨rfl, rfl⟩
    go_wp2_with fail
    go_must (refine F1.out.mono ?_)
    rintro e wx ⟨rfl, rfl⟩
    go_wp2_with fail
    go_ret2
    exact ⟨.inl ⟨by decide, rfl⟩, Below.refl _ _⟩
  rw [dm.twoE_ok he2 he1]
  obtain ⟨b1, o1, rfl⟩ := hr1.at (by omega)
  obtain ⟨b2, o2, rfl⟩ := hr2.at (by omega)
  have hlt1 : b1 < w.heap.size := block_lt_of_cell (hr1.cell 0 (by omega))
  have hlt2 : b2 < w.heap.size := block_lt_of_cell (hr2.cell 0 (by omega))
  have HA2 := Lib.hid (fun k hk => dm.fitE_at he2 k hk)
  have HA1 := Lib.hid (fun k hk => dm.fitE_at he1 k hk)
  rw [he2] at F2
  rw [he1] at F1
  have R1 := Lib.hid hr1
  have R2 := Lib.hid hr2
  have L1 := Lib.hid h1
  have L2 := Lib.hid h2
  have hmk := make64f
  clear h1 h2 hm1 hm2 hr1 hr2 he1 he2
  go_enter Try.func34, Try.ntmps34
  go_wp2_with fail
  go_must (refine F2.out.mono ?_)
  rintro e wx ⟨rfl, rfl⟩
  go_wp2_with fail
  go_must (refine F1.out.mono ?_)
  rintro e wx ⟨rfl, rfl⟩
  go_wp2_with fail
  clear F1 F2
  go_loopg [34] 64 (fun gk s wr => ∃ k : Nat, k ≤ 64 ∧ gk = 64 - k ∧ s = .int .i64 k ∧ wr.heap[w.heap.size]? = some (.cells (ints (dm.partR (dm.twoAt dm.mulF l1 l2) k)) 3 (0, 0)) ∧ Below w.heap.size w wr)
  case atStart => exact ⟨0, by omega, rfl, rfl, by rw [dm.partR_zero]; exact heap_alloc_new _ _, (Below.refl _ _).alloc (Nat.le_refl _) _⟩
  case round =>
    obtain ⟨k, hk, hg, rfl, hx, hnx⟩ := hrel
    have Hg := Lib.hid hg
    have Hx := Lib.hid hx
    have Hnx := Lib.hid hnx
    clear hg hx hnx hmk
    by_cases hlt : k < 64
    · have hc : wr.drew.cell? ⟨w.heap.size, k, none⟩ = some (.int .i64 ((dm.partR (dm.twoAt dm.mulF l1 l2) k).getD k 0)) := ints_cell Hx.out k (by rw [dm.partR_length]; omega)
      have hf : wr.drew.frozen? ⟨w.heap.size, k, none⟩ = false := ints_free Hx.out k
      have x1 : wr.drew.cell? ⟨b1, o1 + k, none⟩ = _ := (R1.out.below Hnx.out).cell k (by rw [L1.out]; exact hlt)
      have x2 : wr.drew.cell? ⟨b2, o2 + k, none⟩ = _ := (R2.out.below Hnx.out).cell k (by rw [L2.out]; exact hlt)
      obtain ⟨y1, y2⟩ := HA1.out k hlt
      obtain ⟨y3, y4⟩ := HA2.out k hlt
      have hk64 : (k : Int) < 64 := by omega
      have HZ : Hid ((wr.drew.setCell ⟨w.heap.size, k, none⟩ (.int .i64 (dm.mulF (l1.getD k 0) (l2.getD k 0)))).heap[w.heap.size]? = some (.cells (ints (dm.partR (dm.twoAt dm.mulF l1 l2) (k + 1))) 3 (0, 0)) ∧ Below w.heap.size w (wr.drew.setCell ⟨w.heap.size, k, none⟩ (.int .i64 (dm.mulF (l1.getD k 0) (l2.getD k 0))))) := Lib.hid (by
        refine ⟨?_, Hnx.out.drew.setCell (Nat.le_refl _) _⟩
        rw [ints_store (w := wr.drew) Hx.out k (dm.mulF (l1.getD k 0) (l2.getD k 0))]
        rw [show dm.mulF (l1.getD k 0) (l2.getD k 0) = dm.twoAt dm.mulF l1 l2 k from rfl, dm.partR_set])
      have hfar1 : w.heap.size ≠ b1 := by omega
      have hfar2 : w.heap.size ≠ b2 := by omega
      generalize l1.getD k 0 = cv at *
      generalize l2.getD k 0 = qv at *
      generalize (dm.partR (dm.twoAt dm.mulF l1 l2) k).getD k 0 = ov at *
      go_wp2_with fail
      go_region_held3 (fun w' => w'.cell? ⟨b1, o1 + k, none⟩ = some (.int .i64 cv) ∧ w'.cell? ⟨b2, o2 + k, none⟩ = some (.int .i64 qv))
        (first
          | (exact ⟨x1, x2⟩)
          | (exact ⟨(World.cell?_setCell_far _ _ _ _ hfar1).trans x1, (World.cell?_setCell_far _ _ _ _ hfar2).trans x2⟩))
        (first | (refine (multiply1_any cv qv _ (by omega) (by omega) (by omega) (by omega)).mono ?_; rintro e wx ⟨rfl, rfl⟩))
      go_wp2_with fail
      obtain ⟨z0, z1⟩ := HZ.out
      go_roundg (64 - (k + 1))
      case measure => have := Hg.out; omega
      case rel => exact ⟨k + 1, by omega, rfl, by go_num, z0, z1⟩
    · obtain rfl : k = 64 := by omega
      have HX : Hid (wr.heap[w.heap.size]? = some (.cells (ints (dm.twoL dm.mulF l1 l2)) 3 (0, 0))) := Lib.hid (by
        have := Hx.out
        rw [dm.partR_done] at this
        exact this)
      go_wp2_with fail
      go_ret2
      exact ⟨.inr ⟨rfl, _, rfl, fresh_cells HX.out (by simp [dm.twoL]) (Nat.le_refl _) (by decide)⟩, Hnx.out⟩

set_option maxRecDepth 100000 in
theorem multiply_any (a1 a2 : Option Addr) (n1 n2 c1 c2 : Nat) (l1 l2 : List Int) (w : World) (h1 : l1.length = n1) (h2 : l2.length = n2) (hm1 : n1 ≤ maxLen) (hm2 : n2 ≤ maxLen) (hr1 : Rd .i64 w a1 l1) (hr2 : Rd .i64 w a2 l2) :
    Calls Try.prog 22 #[.slice a1 n1 c1, .slice a2 n2 c2] w fun e w' => AnsPost 64 (dm.twoL dm.mulF l1 l2) (dm.twoE l1 l2 32768) w e w' := by
  have T := Lib.hid (twoMultiply_any a1 a2 n1 n2 c1 c2 l1 l2 w h1 h2 hm1 hm2 hr1 hr2)
  clear h1 h2 hm1 hm2 hr1 hr2
  go_enter Try.func22, Try.ntmps22
  go_wp2_with fail
  go_must (refine T.out.mono ?_)
  rintro e w1 ⟨h, hb⟩
  have HB := Lib.hid hb
  clear hb
  rcases h with ⟨hne, rfl⟩ | ⟨he, v, rfl, hv⟩
  · have HE := Lib.hid hne
    clear hne
    go_wp2_with fail
    go_ret2
    exact ⟨.inl ⟨HE.out, rfl⟩, HB.out⟩
  · have HV := Lib.hid hv
    have HE := Lib.hid he
    clear hv he
    go_wp2_with fail
    go_ret2
    exact ⟨.inr ⟨HE.out, v, rfl, HV.out⟩, HB.out⟩
end Go.Proofs.Ytdpccgnmlfakfaa

