/- The walk of TonesNearest. -/
import Derived.Test.YtpieaebhmmaeoaaColors
import Derived.Test.YtpieaebhmmaeoaaTonesWakes
import Derived.Lib.QuietBelow
import Derived.Laws.AppendOwnNone
namespace Go.Proofs.Ytpieaebhmmaeoaa
open Go.RowKit Go.Sort

theorem infoColor : (Try.prog.info? 36).map (fun i => (i.zero, i.size, i.bytes)) = some (some (.agg #[.int .u16 0, .int .u16 0, .int .u16 0, .int .u16 0]), 4, 8) := by kernel_rfl

def seven : C4 := ⟨7, 0, 0, 0⟩

/-- no colour of the palette is nearer than the one that was found, nor as near and before it -/
theorem near_least (l : List C4) (c : C4) (k : Nat) (i : Nat) (hi : i < k) :
    ¬ (l.getD i C4.zero).far c < (l.getD (near l c k).toNat C4.zero).far c ∧ ((i : Int) < near l c k → (l.getD i C4.zero).far c ≠ (l.getD (near l c k).toNat C4.zero).far c) := by
  induction k with
  | zero => omega
  | succ k ih =>
    have hr := near_range l c k
    unfold near
    by_cases h : near l c k < 0 ∨ (l.getD k C4.zero).far c < (l.getD (near l c k).toNat C4.zero).far c
    · rw [if_pos h, Int.toNat_natCast]
      by_cases e : i = k
      · subst e
        exact ⟨by omega, fun h => by omega⟩
      · have hi' : i < k := by omega
        have := ih hi'
        have hlt : (l.getD k C4.zero).far c < (l.getD (near l c k).toNat C4.zero).far c := by
          rcases h with h | h
          · omega
          · exact h
        exact ⟨by omega, fun _ => by omega⟩
    · rw [if_neg h]
      by_cases e : i = k
      · subst e
        exact ⟨fun h' => h (.inr h'), fun h' => by omega⟩
      · exact ih (by omega)

theorem seven_news (w : World) : ∀ j u, ([.int .u16 7, .int .u16 0, .int .u16 0, .int .u16 0] : List Value)[j]? = some u → (w.alloc (.cells #[.int .u16 7, .int .u16 0, .int .u16 0, .int .u16 0] 36)).cell? ((⟨w.heap.size, 0, none⟩ : Addr).add j) = some u := by
  intro j u hu
  rw [addr_add, Nat.zero_add, cell_of_row _ _ _ _ _ _ (heap_alloc_new _ _)]
  simpa using hu
set_option maxRecDepth 100000 in
set_option maxHeartbeats 1600000 in
theorem tonesNearest_walk (a : Option Addr) (n cap : Nat) (l : List C4) (c : C4) (w : World) (h : SlC w a n cap l) (hr : cap * 8 ≤ 140737488351232) (hc : c.ok) :
    Calls Try.prog 8 #[.slice a n cap, .agg #[.int .u16 c.r, .int .u16 c.g, .int .u16 c.b, .int .u16 c.a]] w fun e w' => e = .returned (.bool true) ∧ Below w.heap.size w w' := by
  obtain ⟨i0, hi, hz0, hz1, hz2⟩ := info_parts infoColor
  have H := Lib.hid h
  have Hc := Lib.hid hc
  have hn := h.fits
  clear h hc
  go_enter Try.func8, Try.ntmps8
  go_wp2_with fail
  go_must (refine (wakes_any _).mono ?_)
  rintro e w1 ⟨rfl, hb1⟩
  have hB1 : Below w.heap.size w w1 := ((Below.refl _ _).alloc (Nat.le_refl _) _).trans (hb1.mono (by simp))
  have hsz1 : w.heap.size < w1.heap.size := by have := hb1.size; simp at this; omega
  have x0 : w1.cell? ⟨w.heap.size, 0, none⟩ = some (.int .u16 c.r) := (hb1.cell (by simp)).trans (by rw [World.cell?_alloc_at _ _ _ _ rfl]; rfl)
  have x1 : w1.cell? ⟨w.heap.size, 1, none⟩ = some (.int .u16 c.g) := (hb1.cell (by simp)).trans (by rw [World.cell?_alloc_at _ _ _ _ rfl]; rfl)
  have x2 : w1.cell? ⟨w.heap.size, 2, none⟩ = some (.int .u16 c.b) := (hb1.cell (by simp)).trans (by rw [World.cell?_alloc_at _ _ _ _ rfl]; rfl)
  have x3 : w1.cell? ⟨w.heap.size, 3, none⟩ = some (.int .u16 c.a) := (hb1.cell (by simp)).trans (by rw [World.cell?_alloc_at _ _ _ _ rfl]; rfl)
  have B1 := Lib.hid hB1
  have Z1 := Lib.hid hsz1
  have H1 := Lib.hid (H.out.below hB1)
  have X : Hid (w1.cell? ⟨w.heap.size, 0, none⟩ = some (.int .u16 c.r) ∧ w1.cell? ⟨w.heap.size, 1, none⟩ = some (.int .u16 c.g) ∧ w1.cell? ⟨w.heap.size, 2, none⟩ = some (.int .u16 c.b) ∧ w1.cell? ⟨w.heap.size, 3, none⟩ = some (.int .u16 c.a)) := Lib.hid ⟨x0, x1, x2, x3⟩
  clear hb1 hB1 hsz1 x0 x1 x2 x3
  go_upto_region 3 with fail
  go_cut [5] (fun s5 wx => ∃ g c2, s5 = .slice (some ⟨g, 0, none⟩) (n + 1) c2 ∧ wx.ownsRow w1.heap.size 36 4 (.slice (some ⟨g, 0, none⟩) (n + 1) c2) (n + 1) (colVals (l ++ [seven])) ∧ Below w1.heap.size w1 wx)
  case first =>
    have hlit := Lib.hid (World.ownsRow_lit (e := 36) (size := 4) w1 #[] 0 (Nat.le_refl w1.heap.size) (by simp) rfl)
    have HJ : Hid (∀ v2 w2, w2.ownsRow w1.heap.size 36 4 v2 (n + 1) (colVals (l ++ [seven])) → Below w1.heap.size w1 w2 → ∃ g c2, v2 = .slice (some ⟨g, 0, none⟩) (n + 1) c2 ∧ w2.ownsRow w1.heap.size 36 4 (.slice (some ⟨g, 0, none⟩) (n + 1) c2) (n + 1) (colVals (l ++ [seven])) ∧ Below w1.heap.size w1 w2) := Lib.hid (by
      intro v2 w2 ho hb
      rcases ho.2 with ⟨_, h'⟩ | ⟨g, cap, cur, rfl, _, _⟩
      · omega
      · exact ⟨g, cap, rfl, ho, hb⟩)
    cases a with
    | none =>
      obtain rfl : cap = 0 := H.out.bare rfl
      obtain rfl : n = 0 := by omega
      obtain rfl : l = [] := List.length_eq_zero_iff.1 H.out.len
      have H2 := Lib.hid (hlit.out.alloc (.cells #[.int .u16 7, .int .u16 0, .int .u16 0, .int .u16 0] 36))
      have hs2 : w1.heap.size ≤ ((w1.alloc (.cells #[] 36)).alloc (.cells #[.int .u16 7, .int .u16 0, .int .u16 0, .int .u16 0] 36)).heap.size := by simp; omega
      have Hs2 := Lib.hid hs2
      have HN : Hid (∀ j u, ([.int .u16 7, .int .u16 0, .int .u16 0, .int .u16 0] : List Value)[j]? = some u → ((w1.alloc (.cells #[] 36)).alloc (.cells #[.int .u16 7, .int .u16 0, .int .u16 0, .int .u16 0] 36)).cell? ((⟨(w1.alloc (.cells #[] 36)).heap.size, 0, none⟩ : Addr).add j) = some u) := Lib.hid (by
        intro j u hu
        rw [addr_add, Nat.zero_add, cell_of_row _ _ _ _ _ _ (heap_alloc_new _ _)]
        simpa using hu)
      clear hs2
      go_wp2_with (first
        | (at_builtin; first
          | (refine wpList_append_own_none rfl (.tmp 10) (.tmp 11) 46 rfl w1.heap.size 36 i0 4 Try.underlying46 hi _ 0 [] rfl hlit.out rfl ?_)
          | (refine wpList_append_own _ rfl (.tmp 12) (.tmp 14) 46 rfl w1.heap.size 36 i0 (.agg #[.int .u16 0, .int .u16 0, .int .u16 0, .int .u16 0]) 4 8 Try.underlying46 hi hz0 hz1 hz2 rfl (by decide) (.slice (some ⟨w1.heap.size, 0, none⟩) 0 0) 0 _ rfl H2.out ⟨w1.heap.size + 1, 0, none⟩ 1 1 [.int .u16 7, .int .u16 0, .int .u16 0, .int .u16 0] rfl rfl (by simpa using HN.out) (by simp [Value.oneCell']) (by unfold maxLen; omega) (by omega) Hs2.out ?_; intro v3 w3 hown hg _; have Hown := Lib.hid hown; have Hg := Lib.hid hg; clear hown hg)))
      go_meet
      exact HJ.out _ _ (by have := Hown.out; simp only [List.nil_append, Nat.zero_add] at this; exact this) ((((Below.refl _ _).alloc (Nat.le_refl _) _).alloc (by simp) _).grown Hg.out (by simp; omega) (fun k hk => by cases hk; exact Nat.le_refl _))
    | some ad =>
      have hsl := H1.out.below ((Below.refl _ _).alloc (Nat.le_refl _) (.cells #[] 36))
      have HN1 := Lib.hid hsl.at_news
      have Hlen := Lib.hid hsl.len
      have hs1 : w1.heap.size ≤ (w1.alloc (.cells #[] 36)).heap.size := by simp
      have Hs1 := Lib.hid hs1
      clear hsl hs1
      go_wp2_with (first
        | (at_builtin; first
          | (refine wpList_append_own _ rfl (.tmp 10) (.tmp 11) 46 rfl w1.heap.size 36 i0 (.agg #[.int .u16 0, .int .u16 0, .int .u16 0, .int .u16 0]) 4 8 Try.underlying46 hi hz0 hz1 hz2 rfl (by decide) (.slice (some ⟨w1.heap.size, 0, none⟩) 0 0) 0 _ rfl hlit.out ad n cap (colVals l) rfl (by rw [colVals_length, Hlen.out]) HN1.out (colVals_one l) (by unfold maxLen; omega) (by omega) Hs1.out ?_; intro v2 w2 hown hg _; have Hown := Lib.hid hown; have Hg := Lib.hid hg; have hs2 : w1.heap.size ≤ w2.heap.size := Nat.le_trans Hs1.out hg.size; have Hs2 := Lib.hid hs2; have H2 := Lib.hid (hown.alloc (.cells #[.int .u16 7, .int .u16 0, .int .u16 0, .int .u16 0] 36)); clear hown hg hs2)
          | (refine wpList_append_own _ rfl (.tmp 12) (.tmp 14) 46 rfl w1.heap.size 36 i0 (.agg #[.int .u16 0, .int .u16 0, .int .u16 0, .int .u16 0]) 4 8 Try.underlying46 hi hz0 hz1 hz2 rfl (by decide) v2 (0 + n) _ rfl H2.out ⟨w2.heap.size, 0, none⟩ 1 1 [.int .u16 7, .int .u16 0, .int .u16 0, .int .u16 0] rfl rfl (seven_news w2) (by simp [Value.oneCell']) (by unfold maxLen; omega) (by omega) (by simp; have := Hs2.out; omega) ?_; intro v3 w3 hown hg _; have Hown3 := Lib.hid hown; have Hg3 := Lib.hid hg; clear hown hg)))
      go_meet
      refine HJ.out _ _ (by have := Hown3.out; simp only [List.nil_append, Nat.zero_add] at this; rw [colVals_append]; exact this) ?_
      have hb2 : Below w1.heap.size w1 w2 := ((Below.refl _ _).alloc (Nat.le_refl _) _).grown Hg.out (by simp) (fun k hk => by cases hk; exact Nat.le_refl _)
      exact (hb2.alloc Hs2.out _).grown Hg3.out (by simp; have := Hs2.out; omega) (fun k hk => (Hown.out.lt k hk).1)
  case rest =>
    obtain ⟨g, c2, rfl, hown, hb2⟩ := hcut
    have Hown := Lib.hid hown
    have B2 := Lib.hid (B1.out.trans (hb2.mono B1.out.size))
    have hnc : n + 1 ≤ c2 := by
      rcases hown.2 with ⟨h', _⟩ | ⟨g', cap', cur, h', _, _, h1, h2, _⟩
      · cases h'
      · simp only [Value.slice.injEq, Option.some.injEq, Addr.mk.injEq, and_true, true_and] at h'
        obtain ⟨_, rfl⟩ := h'
        exact h1
    obtain ⟨x0, x1, x2, x3⟩ := X.out
    have X' : Hid (wc.cell? ⟨w.heap.size, 0, none⟩ = some (.int .u16 c.r) ∧ wc.cell? ⟨w.heap.size, 1, none⟩ = some (.int .u16 c.g) ∧ wc.cell? ⟨w.heap.size, 2, none⟩ = some (.int .u16 c.b) ∧ wc.cell? ⟨w.heap.size, 3, none⟩ = some (.int .u16 c.a)) := Lib.hid ⟨keep_cell hb2 x0, keep_cell hb2 x1, keep_cell hb2 x2, keep_cell hb2 x3⟩
    have Z2 := Lib.hid (Nat.lt_of_lt_of_le Z1.out hb2.size)
    have H2 := Lib.hid (H1.out.below hb2)
    clear x0 x1 x2 x3 hb2 hown
    have HR := Lib.hid (RdC.owned Hown.out)
    have hl2 : 0 ≤ (n : Int) := by omega
    have hl3 : (n : Int) ≤ (c2 : Int) := by omega
    have CN : Hid (∀ d os, Calls Try.prog 21 #[.slice (some ⟨g, 0, none⟩) n c2, .agg #[.int .u16 c.r, .int .u16 c.g, .int .u16 c.b, .int .u16 c.a]] (grow (redrawn wc d) os) fun e w'' => e = .returned (.int .i64 (near l c n)) ∧ ∃ p : Regrown, w'' = grow (redrawn wc p.d) p.os) :=
      Lib.hid (fun d os => Calls.regrown_of (nearest_any _ n c2 l c _ H2.out.len (by have := H2.out.most; unfold maxLen at this ⊢; omega) H2.out.ok Hc.out (HR.out.below (below_regrown wc d os))))
    obtain ⟨x0, x1, x2, x3⟩ := X'.out
    have k0 := cell_regrown x0
    have k1 := cell_regrown x1
    have k2 := cell_regrown x2
    have k3 := cell_regrown x3
    clear x0 x1 x2 x3
    go_wp2_with fail
    refine wp_region_quiet_below (by kernel_rfl) (by kernel_rfl) ?_
    repeat (go_big_quiet_step (exact CN.out _ _))
    refine wpQuiet_nil ?_
    intro _ hw'
    obtain ⟨⟨dq, osq⟩, hw''⟩ := hw'
    subst hw''
    have hb3 := below_regrown wc dq osq
    clear k0 k1 k2 k3
    generalize grow (redrawn wc dq) osq = w4 at *
    have B4 := Lib.hid (B2.out.trans (hb3.mono B2.out.size))
    obtain ⟨x0, x1, x2, x3⟩ := X'.out
    have X4 : Hid (w4.cell? ⟨w.heap.size, 0, none⟩ = some (.int .u16 c.r) ∧ w4.cell? ⟨w.heap.size, 1, none⟩ = some (.int .u16 c.g) ∧ w4.cell? ⟨w.heap.size, 2, none⟩ = some (.int .u16 c.b) ∧ w4.cell? ⟨w.heap.size, 3, none⟩ = some (.int .u16 c.a)) := Lib.hid ⟨keep_cell hb3 x0, keep_cell hb3 x1, keep_cell hb3 x2, keep_cell hb3 x3⟩
    have H4 := Lib.hid (H2.out.below hb3)
    have Z4 := Lib.hid (Nat.lt_of_lt_of_le Z2.out hb3.size)
    have Hlen := Lib.hid H.out.len
    have hin : n < (l ++ [seven]).length := by rw [List.length_append, Hlen.out]; simp
    obtain ⟨g0, g1, g2, g3⟩ := colVals_get (l ++ [seven]) n hin
    have eg : (l ++ [seven]).getD n C4.zero = seven := by
      have := Hlen.out
      subst this
      simp [List.getD_eq_getElem?_getD]
    rw [eg] at g0 g1 g2 g3
    have I4 : Hid (w4.cell? ⟨g, n * 4, none⟩ = some (.int .u16 7) ∧ w4.cell? ⟨g, n * 4 + 1, none⟩ = some (.int .u16 0) ∧ w4.cell? ⟨g, n * 4 + 2, none⟩ = some (.int .u16 0) ∧ w4.cell? ⟨g, n * 4 + 3, none⟩ = some (.int .u16 0)) :=
      Lib.hid ⟨keep_cell hb3 ((Hown.out.cellAt _ (by omega)).trans g0), keep_cell hb3 ((Hown.out.cellAt _ (by omega)).trans g1), keep_cell hb3 ((Hown.out.cellAt _ (by omega)).trans g2), keep_cell hb3 ((Hown.out.cellAt _ (by omega)).trans g3)⟩
    clear g0 g1 g2 g3 eg hin x0 x1 x2 x3 hb3
    obtain ⟨x0, x1, x2, x3⟩ := X4.out
    go_wp2_with fail
    go_must (refine (refNearest_any a n cap l c w4 H4.out.len (by have := H4.out.most; unfold maxLen at this ⊢; omega) H4.out.ok Hc.out H4.out.rd).mono ?_)
    rintro e w5 ⟨rfl, hb5⟩
    have B5 := Lib.hid (B4.out.trans (hb5.mono B4.out.size))
    have X5 : Hid (w5.cell? ⟨w.heap.size, 0, none⟩ = some (.int .u16 c.r) ∧ w5.cell? ⟨w.heap.size, 1, none⟩ = some (.int .u16 c.g) ∧ w5.cell? ⟨w.heap.size, 2, none⟩ = some (.int .u16 c.b) ∧ w5.cell? ⟨w.heap.size, 3, none⟩ = some (.int .u16 c.a)) := Lib.hid ⟨keep_cell hb5 x0, keep_cell hb5 x1, keep_cell hb5 x2, keep_cell hb5 x3⟩
    have H5 := Lib.hid (H4.out.below hb5)
    have Z5 := Lib.hid (Nat.lt_of_lt_of_le Z4.out hb5.size)
    obtain ⟨i0, i1, i2, i3⟩ := I4.out
    have i0 := keep_cell hb5 i0
    have i1 := keep_cell hb5 i1
    have i2 := keep_cell hb5 i2
    have i3 := keep_cell hb5 i3
    clear x0 x1 x2 x3 hb5
    generalize hk : near l c n = k at *
    have Hk := Lib.hid hk
    clear hk
    have hin2 : (n : Int) < ((n + 1 : Nat) : Int) := by omega
    go_wp2_with fail
    clear i0 i1 i2 i3 hin2
    have hkr := near_range l c n
    rw [Hk.out] at hkr
    have HL := Lib.hid (near_least l c n)
    rw [Hk.out] at HL
    go_loopg [38] n (fun gk s wr => ∃ j : Nat, j ≤ n ∧ gk = n - j ∧ s = .int .i64 j ∧ Below w5.heap.size w5 wr)
    case atStart => exact ⟨0, by omega, rfl, rfl, Below.refl _ _⟩
    case round =>
      obtain ⟨j, hj, hg, rfl, hb⟩ := hrel
      have Hg := Lib.hid hg
      have Hb := Lib.hid hb
      clear hg hb
      by_cases hlt : j < n
      · obtain ⟨kk, rfl⟩ := Int.eq_ofNat_of_zero_le (show 0 ≤ k by omega)
        have hkn : kk < n := by omega
        have H6 := Lib.hid (H5.out.below Hb.out)
        rcases H6.out.rd with h0 | ⟨b, off, rfl, hcell⟩
        · have := Hlen.out; rw [h0] at this; simp at this; omega
        · obtain ⟨y0, y1, y2, y3⟩ := hcell j (by rw [Hlen.out]; exact hlt)
          obtain ⟨z0, z1, z2, z3⟩ := hcell kk (by rw [Hlen.out]; exact hkn)
          obtain ⟨x0, x1, x2, x3⟩ := X5.out
          have x0 := cell_regrown (keep_cell Hb.out x0)
          have x1 := cell_regrown (keep_cell Hb.out x1)
          have x2 := cell_regrown (keep_cell Hb.out x2)
          have x3 := cell_regrown (keep_cell Hb.out x3)
          have y0 := cell_regrown y0
          have y1 := cell_regrown y1
          have y2 := cell_regrown y2
          have y3 := cell_regrown y3
          have z0 := cell_regrown z0
          have z1 := cell_regrown z1
          have z2 := cell_regrown z2
          have z3 := cell_regrown z3
          clear hcell
          have hm1 : l.getD j C4.zero ∈ l := by
            rw [List.getD_eq_getElem?_getD, List.getElem?_eq_getElem (by rw [Hlen.out]; exact hlt)]; exact List.getElem_mem _
          have hm2 : l.getD kk C4.zero ∈ l := by
            rw [List.getD_eq_getElem?_getD, List.getElem?_eq_getElem (by rw [Hlen.out]; omega)]; exact List.getElem_mem _
          have Hx := Lib.hid (H.out.ok _ hm1)
          have Hy := Lib.hid (H.out.ok _ hm2)
          obtain ⟨l1, l2⟩ := HL.out j hlt
          rw [Int.toNat_natCast] at l1 l2
          clear hm1 hm2
          generalize l.getD j C4.zero = x at *
          generalize l.getD kk C4.zero = y at *
          have hj0 : (0 : Int) ≤ (j : Int) := by omega
          have hjn : (j : Int) < (n : Int) := by omega
          have hk0 : (0 : Int) ≤ (kk : Int) := by omega
          have hkn2 : (kk : Int) < (n : Int) := by omega
          have CF : Hid (∀ (q : C4), q.ok → ∀ d os, Calls Try.prog 23 #[.agg #[.int .u16 q.r, .int .u16 q.g, .int .u16 q.b, .int .u16 q.a], .agg #[.int .u16 c.r, .int .u16 c.g, .int .u16 c.b, .int .u16 c.a]] (grow (redrawn wr d) os) fun e w'' => e = .returned (.int .i64 (q.far c)) ∧ ∃ p : Regrown, w'' = grow (redrawn wr p.d) p.os) :=
            Lib.hid (fun q hq d os => Calls.regrown_of (far_c4 q c hq Hc.out _))
          have l1' : decide (x.far c < y.far c) = false := decide_eq_false l1
          by_cases hjk : (j : Int) < (kk : Int)
          · have l2' : (x.far c == y.far c) = false := by have := l2 hjk; simpa using this
            have hjk' : decide ((j : Int) < (kk : Int)) = true := decide_eq_true hjk
            clear l2 l1
            go_wp2_with fail
            refine wp_region_quiet_below (by kernel_rfl) (by kernel_rfl) ?_
            repeat (go_big_quiet_step (exact CF.out _ (by first | exact Hx.out | exact Hy.out) _ _))
            refine wpQuiet_nil ?_
            intro _ hw'
            obtain ⟨⟨dq, osq⟩, hw''⟩ := hw'
            subst hw''
            have B7 := Lib.hid (Hb.out.trans ((below_regrown wr dq osq).mono Hb.out.size))
            clear x0 x1 x2 x3 y0 y1 y2 y3 z0 z1 z2 z3
            generalize grow (redrawn wr dq) osq = w7 at *
            go_wp2
            go_roundg (n - (j + 1))
            case measure => have := Hg.out; omega
            case rel => exact ⟨j + 1, by omega, rfl, by go_num, B7.out⟩
          · have hjk' : decide (j < kk) = false := decide_eq_false (by omega)
            clear l2 l1 hjk
            go_wp2_with fail
            refine wp_region_quiet_below (by kernel_rfl) (by kernel_rfl) ?_
            repeat (go_big_quiet_step (exact CF.out _ (by first | exact Hx.out | exact Hy.out) _ _))
            refine wpQuiet_nil ?_
            intro _ hw'
            obtain ⟨⟨dq, osq⟩, hw''⟩ := hw'
            subst hw''
            have B7 := Lib.hid (Hb.out.trans ((below_regrown wr dq osq).mono Hb.out.size))
            clear x0 x1 x2 x3 y0 y1 y2 y3 z0 z1 z2 z3
            generalize grow (redrawn wr dq) osq = w7 at *
            go_wp2
            go_roundg (n - (j + 1))
            case measure => have := Hg.out; omega
            case rel => exact ⟨j + 1, by omega, rfl, by go_num, B7.out⟩
      · obtain rfl : j = n := by omega
        go_wp2
        go_ret
        exact ⟨rfl, B5.out.trans (Hb.out.mono B5.out.size)⟩

theorem tonesNearest_said (a : Option Addr) (n cap : Nat) (l : List C4) (c : C4) (w : World) (h : SlC w a n cap l) (hr : cap * Try.prog.bytesOf 36 ≤ reachBytes) (hc : c.ok) :
    Calls Try.prog 8 #[.slice a n cap, .agg #[.int .u16 c.r, .int .u16 c.g, .int .u16 c.b, .int .u16 c.a]] w fun e w' => e = .returned (.bool true) ∧ Below w.heap.size w w' := by
  have e : Try.prog.bytesOf 36 = 8 := by kernel_rfl
  rw [e] at hr
  exact tonesNearest_walk a n cap l c w h hr hc
end Go.Proofs.Ytpieaebhmmaeoaa
