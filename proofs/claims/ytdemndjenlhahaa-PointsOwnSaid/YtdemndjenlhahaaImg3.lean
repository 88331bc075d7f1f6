/- Images: the law's own copy; are two the same? -/
import Derived.Test.YtdemndjenlhahaaImg2
import Derived.Deep.QuietTactic
import Derived.BigQuiet
import Derived.Lib.QuietBelow
namespace Go.Proofs.Ytdemndjenlhahaa
open Go.RowKit Go.Sort

set_option maxRecDepth 100000 in
set_option maxHeartbeats 1000000 in
theorem ownImg_any (W H : Int) (p : Option Addr) (n cap : Nat) (l : List Int) (w : World) (h : Sl .u16 w p n cap l) (hr : n * 2 ≤ 140737488355328) :
    Calls Try.prog 16 #[.agg #[.int .i64 W, .int .i64 H, .slice p n cap]] w (ImgOut w.heap.size W H l w) := by
  have B0 := Lib.hid (((Below.refl w.heap.size w).alloc (Nat.le_refl _) (.cells #[.int .i64 W, .int .i64 H, .slice p n cap] 41)).alloc (by simp) (.cells #[.int .i64 0, .int .i64 0, .slice none 0 0] 41))
  obtain ⟨q0, q1⟩ := heap2 w (.cells #[.int .i64 W, .int .i64 H, .slice p n cap] 41) (.cells #[.int .i64 0, .int .i64 0, .slice none 0 0] 41)
  have Q1 := Lib.hid q1
  have HS := Lib.hid (h.below B0.out)
  clear h q0 q1
  go_enter Try.func16, Try.ntmps16
  go_wp2_with fail
  refine (copy_any W H p n cap l _ HS.out hr).mono ?_
  rintro e w1 ⟨g, cap1, rfl, hg, hown, hb⟩
  have Q2 := Lib.hid ((hb.block _ (block_lt Q1.out)).trans Q1.out)
  have B2 := Lib.hid (B0.out.trans (hb.mono B0.out.size))
  have Hown := Lib.hid hown
  simp only [World.size_alloc] at hg
  clear hb hown
  go_wp2_with (with_reducible refine wpList_store_row rfl 41 _ _ rfl (w.heap.size + 1) _ rfl rfl 41 _ Q2.out (imgSize3 _ _ _) (imgSz _ _ _ _ _ _) (imgOne _ _ _ _ _) ?_)
  refine bodyPost_ret (results_cell_row (p := 2) (ty := 41) rfl _ _ (w.heap.size + 1) 41 _ (0, 0) _ rfl (setRow_heap _ _ _ _ _ _ Q2.out) Try.underlying41 rfl imgSize) rfl ?_
  exact ⟨g, cap1, rfl, by omega, World.ownsRow.mono (World.ownsRow.kept Hown.out (grownBy_setRow _ _ _) (.inr (by intro e; have h1 : g = w.heap.size + 1 := Option.some.inj e; omega))) (by simp; omega), below_setRow B2.out (by omega) _⟩

/-- are they the same? -/
def sameB (W H : Int) (l : List Int) (W' H' : Int) (l' : List Int) : Bool := decide (W = W' ∧ H = H' ∧ l = l')
theorem sameB_true {W H W' H' : Int} {l l' : List Int} (h : W = W' ∧ H = H' ∧ l = l') : sameB W H l W' H' l' = true := decide_eq_true h
theorem sameB_false {W H W' H' : Int} {l l' : List Int} (h : ¬ (W = W' ∧ H = H' ∧ l = l')) : sameB W H l W' H' l' = false := decide_eq_false h
theorem list_eq_getD {l l' : List Int} (hl : l.length = l'.length) (h : ∀ i, i < l.length → l.getD i 0 = l'.getD i 0) : l = l' := by
  apply List.ext_getElem hl
  intro i h1 h2
  have := h i h1
  simpa [List.getD_eq_getElem?_getD, List.getElem?_eq_getElem h1, List.getElem?_eq_getElem h2] using this
theorem Sl.cells {k : IntKind} {w : World} {p : Option Addr} {n cap : Nat} {l : List Int} (h : Sl k w p n cap l) (hn : 0 < n) : ∃ b off, p = some ⟨b, off, none⟩ ∧ ∀ i, i < n → w.cell? ⟨b, off + i, none⟩ = some (.int k (l.getD i 0)) := by
  obtain ⟨b, off, rfl⟩ := h.rd.at (by rw [h.len]; exact hn)
  exact ⟨b, off, rfl, fun i hi => h.rd.cell i (by rw [h.len]; exact hi)⟩

def SamePost (b : Bool) (w : World) (e : Ending) (w' : World) : Prop := e = .returned (.bool b) ∧ Below w.heap.size w w'
set_option maxRecDepth 100000 in
set_option maxHeartbeats 1000000 in
theorem same_any (W H W' H' : Int) (p p' : Option Addr) (n n' cap cap' : Nat) (l l' : List Int) (w : World) (h : Sl .u16 w p n cap l) (h' : Sl .u16 w p' n' cap' l') :
    Calls Try.prog 18 #[.agg #[.int .i64 W, .int .i64 H, .slice p n cap], .agg #[.int .i64 W', .int .i64 H', .slice p' n' cap']] w (SamePost (sameB W H l W' H' l') w) := by
  have B0 := Lib.hid (((Below.refl w.heap.size w).alloc (Nat.le_refl _) (.cells #[.int .i64 W, .int .i64 H, .slice p n cap] 41)).alloc (by simp) (.cells #[.int .i64 W', .int .i64 H', .slice p' n' cap'] 41))
  obtain ⟨q0, q1⟩ := heap2 w (.cells #[.int .i64 W, .int .i64 H, .slice p n cap] 41) (.cells #[.int .i64 W', .int .i64 H', .slice p' n' cap'] 41)
  have Q0 := Lib.hid q0
  have Q1 := Lib.hid q1
  have HS := Lib.hid (h.below B0.out)
  have HS' := Lib.hid (h'.below B0.out)
  have hn : n ≤ maxLen := Nat.le_trans h.fits h.most
  have hn' : n' ≤ maxLen := Nat.le_trans h'.fits h'.most
  unfold maxLen at hn hn'
  have HL := Lib.hid h.len
  have HL' := Lib.hid h'.len
  clear h h' q0 q1
  by_cases h1 : W = W'
  · by_cases h2 : H = H'
    · by_cases h3 : n = n'
      · subst h1; subst h2; subst h3
        go_enter Try.func18, Try.ntmps18
        go_wp2_with fail
        generalize (w.alloc (.cells #[.int .i64 W, .int .i64 H, .slice p n cap] 41)).alloc (.cells #[.int .i64 W, .int .i64 H, .slice p' n cap'] 41) = w2 at *
        go_loopg [5] n (fun gk i wr => ∃ k : Nat, k ≤ n ∧ gk = n - k ∧ i = .int .i64 k ∧ Below w2.heap.size w2 wr ∧ ∀ j, j < k → l.getD j 0 = l'.getD j 0)
        case atStart => exact ⟨0, by omega, rfl, rfl, Below.refl _ _, fun j hj => absurd hj (by omega)⟩
        case round =>
          obtain ⟨k, hk, hg, rfl, hb, hj⟩ := hrel
          have Hg := Lib.hid hg
          have Hb := Lib.hid hb
          have Hj := Lib.hid hj
          clear hg hb hj
          have c2 := keep_cell Hb.out ((cell_of_row _ _ 2 _ _ (0, 0) Q0.out).trans rfl)
          have d2 := keep_cell Hb.out ((cell_of_row _ _ 2 _ _ (0, 0) Q1.out).trans rfl)
          by_cases hlt : k < n
          · obtain ⟨b, off, rfl, hcell⟩ := HS.out.cells (by omega)
            obtain ⟨b', off', rfl, hcell'⟩ := HS'.out.cells (by omega)
            have x1 := cell_regrown (keep_cell Hb.out (hcell k hlt))
            have x2 := cell_regrown (keep_cell Hb.out (hcell' k hlt))
            have y1 := cell_regrown c2
            have y2 := cell_regrown d2
            clear hcell hcell'
            by_cases heq : l.getD k 0 = l'.getD k 0
            · have HE := Lib.hid heq
              rw [← heq] at x2
              clear heq
              obtain ⟨s, hs⟩ : ∃ s, l.getD k 0 = s := ⟨_, rfl⟩
              rw [hs] at x1 x2
              clear hs
              have hss : (s != s) = false := by simp
              go_wp2_with fail
              refine wp_region_quiet_below (by kernel_rfl) (by kernel_rfl) ?_
              repeat (go_big_quiet_step (fail))
              refine wpQuiet_nil ?_
              intro _ hw'
              obtain ⟨⟨dq, osq⟩, hw''⟩ := hw'
              subst hw''
              have HB5 := Lib.hid (Hb.out.trans ((below_regrown wr dq osq).mono Hb.out.size))
              clear x1 x2 y1 y2 c2 d2
              generalize grow (redrawn wr dq) osq = w5 at *
              go_wp2_with fail
              go_roundg (n - (k + 1))
              case measure => have := Hg.out; omega
              case rel => exact ⟨k + 1, by omega, rfl, by go_num, HB5.out, fun j hj => by
                rcases Nat.lt_or_ge j k with h | h
                · exact Hj.out j h
                · obtain rfl : j = k := by omega
                  exact HE.out⟩
            · have HV : Hid (sameB W H l W H l' = false) := Lib.hid (sameB_false fun h => heq (by rw [h.2.2]))
              generalize l.getD k 0 = s at *
              generalize l'.getD k 0 = s' at *
              have hss : (s != s') = true := by simpa using heq
              have hss' : (s == s') = false := by simpa using heq
              clear heq
              go_wp2_with fail
              refine wp_region_quiet_below (by kernel_rfl) (by kernel_rfl) ?_
              repeat (go_big_quiet_step (fail))
              refine wpQuiet_nil ?_
              intro _ hw'
              obtain ⟨⟨dq, osq⟩, hw''⟩ := hw'
              subst hw''
              have HB5 := Lib.hid (B0.out.trans ((Hb.out.trans ((below_regrown wr dq osq).mono Hb.out.size)).mono B0.out.size))
              clear x1 x2 y1 y2 c2 d2
              generalize grow (redrawn wr dq) osq = w5 at *
              go_wp2_with fail
              go_ret
              exact ⟨by rw [HV.out]; rfl, HB5.out⟩
          · obtain rfl : k = n := by omega
            have HV : Hid (sameB W H l W H l' = true) := Lib.hid (sameB_true ⟨rfl, rfl, list_eq_getD (by rw [HL.out, HL'.out]) fun i hi => Hj.out i (by rw [HL.out] at hi; exact hi)⟩)
            have HB5 := Lib.hid (B0.out.trans (Hb.out.mono B0.out.size))
            clear hlt
            go_wp2_with fail
            go_ret
            exact ⟨by rw [HV.out]; rfl, HB5.out⟩
      · have HV : Hid (sameB W H l W' H' l' = false) := Lib.hid (sameB_false fun h => h3 (by rw [← HL.out, ← HL'.out, h.2.2]))
        have hss : ((n : Int) != (n' : Int)) = true := by simp; omega
        have hss' : ((n : Int) == (n' : Int)) = false := by simp; omega
        subst h1; subst h2
        clear h3
        go_enter Try.func18, Try.ntmps18
        go_wp2_with fail
        go_ret
        exact ⟨by rw [HV.out]; rfl, B0.out⟩
    · have HV : Hid (sameB W H l W' H' l' = false) := Lib.hid (sameB_false fun h => h2 h.2.1)
      have hss : (H != H') = true := by simpa using h2
      have hss' : (H == H') = false := by simpa using h2
      subst h1
      clear h2
      go_enter Try.func18, Try.ntmps18
      go_wp2_with fail
      go_ret
      exact ⟨by rw [HV.out]; rfl, B0.out⟩
  · have HV : Hid (sameB W H l W' H' l' = false) := Lib.hid (sameB_false fun h => h1 h.1)
    have hss : (W != W') = true := by simpa using h1
    have hss' : (W == W') = false := by simpa using h1
    clear h1
    go_enter Try.func18, Try.ntmps18
    go_wp2_with fail
    go_ret
    exact ⟨by rw [HV.out]; rfl, B0.out⟩
end Go.Proofs.Ytdemndjenlhahaa
