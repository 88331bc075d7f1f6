/- ChunkPasses: the law's walk. -/
import Derived.Test.YtfaemhmefijaoaaDoorCkLaw1
import Derived.Test.YtfaemhmefijaoaaDoorCkRefP
import Derived.Test.YtfaemhmefijaoaaDoorCkPassM
import Derived.Test.YtfaemhmefijaoaaDoorQuietTail
import Derived.Deep.OwnRows
namespace Go.Proofs.YtfaemhmefijaoaaDoor
open Go.RowKit Go.Sort

theorem infoI64z : (Tryd.prog.info? 3).map (fun i => (i.zero, i.size, i.bytes)) = some (some (.int .i64 0), 1, 8) := by kernel_rfl
theorem own_slice {w : World} {base : Nat} {e : TypeId} {size : Nat} {v : Value} {n : Nat} {xs : List Value} (h : w.ownsRow base e size v n xs) : ∃ a c, v = .slice a n c ∧ n ≤ c ∧ c ≤ maxLen ∧ (n = 0 ∨ ∃ g, a = some ⟨g, 0, none⟩ ∧ base ≤ g ∧ g < w.heap.size ∧ ∀ i x, xs[i]? = some x → w.cell? ⟨g, i, none⟩ = some x) := by
  rcases h.2 with ⟨rfl, rfl⟩ | ⟨g, cap, cur, rfl, h1, h2, h3, h4, h5, h6⟩
  · exact ⟨none, 0, rfl, Nat.le_refl _, Nat.zero_le _, .inl rfl⟩
  · refine ⟨_, cap, rfl, h3, h4, .inr ⟨g, rfl, h1, block_lt h2, fun i x hx => ?_⟩⟩
    have hi : i < n * size := by
      rw [← h.1]
      exact (List.getElem?_eq_some_iff.1 hx).1
    rw [cell_of_row _ _ _ _ _ _ h2]
    rw [← h6, List.getElem?_take, if_pos hi] at hx
    simpa using hx

theorem count_le (l : List ck.Ps) (r q : Nat) : ck.count l r q ≤ l.length := by
  unfold ck.count
  exact List.length_filter_le _ _
theorem place_in {w h R Q : Nat} (hR : R < h) (hQ : Q < w) : R * w + Q < w * h := by
  have h1 : (R + 1) * w ≤ h * w := Nat.mul_le_mul_right _ hR
  rw [Nat.succ_mul, Nat.mul_comm h w] at h1
  omega
theorem place_eq {w R Q : Nat} (hQ : Q < w) (c : Nat) : (c / w = R ∧ c % w = Q) ↔ c = R * w + Q := by
  constructor
  · rintro ⟨rfl, rfl⟩
    rw [Nat.mul_comm]
    exact (Nat.div_add_mod c w).symm
  · rintro rfl
    constructor
    · rw [Nat.mul_comm, Nat.mul_add_div (by omega), Nat.div_eq_of_lt hQ, Nat.add_zero]
    · rw [Nat.mul_comm, Nat.mul_add_mod, Nat.mod_eq_of_lt hQ]
/-- the six numbers of pass i, as they lie -/
theorem pass_six {x y : Int} {P : List ck.Ps} {i : Nat} {p : ck.Ps} (hp : P[i]? = some p) {W : World} {g : Nat} (hc : ∀ (i : Nat) (v : Value), (ck.passCells x y P)[i]? = some v → W.cell? ⟨g, i, none⟩ = some v) :
    W.cell? ⟨g, i * 6, none⟩ = some (.int .i64 p.X) ∧ W.cell? ⟨g, i * 6 + 1, none⟩ = some (.int .i64 p.Y) ∧ W.cell? ⟨g, i * 6 + 2, none⟩ = some (.int .i64 p.DX) ∧ W.cell? ⟨g, i * 6 + 3, none⟩ = some (.int .i64 p.DY) ∧ W.cell? ⟨g, i * 6 + 4, none⟩ = some (.int .i64 (ck.span x p.X p.DX)) ∧ W.cell? ⟨g, i * 6 + 5, none⟩ = some (.int .i64 (ck.span y p.Y p.DY)) := by
  have h := ck.passCells_get x y P i p hp
  exact ⟨hc _ _ (h 0 (by decide)), hc _ _ (h 1 (by decide)), hc _ _ (h 2 (by decide)), hc _ _ (h 3 (by decide)), hc _ _ (h 4 (by decide)), hc _ _ (h 5 (by decide))⟩

set_option maxRecDepth 100000 in
set_option maxHeartbeats 3200000 in
theorem chunkPasses_walk (x y : Int) (s : ByteArray) (w : World) (hx : (Lit.int .i64 x).wf = true) (hy : (Lit.int .i64 y).wf = true) :
    Calls Tryd.prog 8 #[.int .i64 x, .int .i64 y, .string s] w (Same8Post true w) := by
  have hxb : -9223372036854775808 ≤ x ∧ x ≤ 9223372036854775807 := by
    simp [Lit.wf, IntKind.min, IntKind.max, IntKind.bits, IntKind.signed] at hx
    omega
  have hyb : -9223372036854775808 ≤ y ∧ y ≤ 9223372036854775807 := by
    simp [Lit.wf, IntKind.min, IntKind.max, IntKind.bits, IntKind.signed] at hy
    omega
  have HXB := Lib.hid hxb
  have HYB := Lib.hid hyb
  clear hx hy hxb hyb
  obtain ⟨P, hP⟩ : ∃ P, ck.passes x y = P := ⟨_, rfl⟩
  have HP := Lib.hid hP
  have hn7 : P.length ≤ 7 := by rw [← hP]; exact passesTo_length x y 7
  clear hP
  obtain ⟨n, hn⟩ : ∃ n, P.length = n := ⟨_, rfl⟩
  rw [hn] at hn7
  have HN := Lib.hid hn
  clear hn
  go_enter Tryd.func8, Tryd.ntmps8
  go_wp2_with fail
  refine (wakes_any _).mono ?_
  rintro e w1 ⟨rfl, hb1⟩
  have HB1 := Lib.hid hb1
  clear hb1
  go_wp2_with fail
  refine (passes_any x y _ HXB.out.1 HXB.out.2 HYB.out.1 HYB.out.2).mono ?_
  rw [HP.out]
  rintro e w2 ⟨v, rfl, hr, hb⟩
  rw [HN.out] at hr
  obtain ⟨a1, c1, rfl, e1, e2, e3⟩ := own_slice hr
  have HE1 := Lib.hid e1
  have HE2 := Lib.hid e2
  have HE3 := Lib.hid e3
  have HB2 := Lib.hid (HB1.out.trans (hb.mono HB1.out.size))
  clear hr hb e1 e2 e3
  go_wp2_with fail
  refine (refpasses_any x y _ HXB.out.1 HXB.out.2 HYB.out.1 HYB.out.2).mono ?_
  rw [HP.out]
  rintro e w3 ⟨v, rfl, hr, hb⟩
  rw [HN.out] at hr
  obtain ⟨a2, c2, rfl, d1, d2, d3⟩ := own_slice hr
  have HD1 := Lib.hid d1
  have HD3 := Lib.hid d3
  have HB3 := Lib.hid (HB2.out.trans (hb.mono HB2.out.size))
  have HBw := Lib.hid hb
  clear hr hb d1 d2 d3
  have hbb : (ck.crit s != ck.crit s) = false := by simp
  go_wp2_with fail
  refine (crit_any _ _).mono ?_
  rintro e w4 ⟨rfl, rfl⟩
  go_wp2_with fail
  refine (refcrit_any _ _).mono ?_
  rintro e w4 ⟨rfl, rfl⟩
  go_wp2_with fail
  go_loopg [37] n (fun gk i wr => ∃ k : Nat, k ≤ n ∧ gk = n - k ∧ i = .int .i64 k ∧ Below w3.heap.size w3 wr)
  case atStart => exact ⟨0, Nat.zero_le _, rfl, rfl, Below.refl _ _⟩
  case round =>
    obtain ⟨k, hk, hgk, rfl, hb⟩ := hrel
    have Hg := Lib.hid hgk
    have HBr := Lib.hid hb
    clear hgk hb
    by_cases hlt : k < n
    · obtain ⟨p, hp⟩ : ∃ p, P[k]? = some p := ⟨P[k]'(by rw [HN.out]; exact hlt), List.getElem?_eq_getElem _⟩
      rcases HE3.out with h0 | ⟨g1, rfl, _, q1, hc1⟩
      · omega
      rcases HD3.out with h0 | ⟨g2, rfl, _, q2, hc2⟩
      · omega
      obtain ⟨x0, x1, x2, x3, x4, x5⟩ := pass_six hp (W := wr) (fun i v h => keep_cell HBr.out (keep_cell HBw.out (hc1 i v h)))
      obtain ⟨y0, y1, y2, y3, y4, y5⟩ := pass_six hp (W := wr) (fun i v h => keep_cell HBr.out (hc2 i v h))
      have z1 := HE1.out
      have z2 := HD1.out
      clear q1 hc1 q2 hc2
      obtain ⟨t0, ht0⟩ : ∃ t : Int, (p.X : Int) = t := ⟨_, rfl⟩
      obtain ⟨t1, ht1⟩ : ∃ t : Int, (p.Y : Int) = t := ⟨_, rfl⟩
      obtain ⟨t2, ht2⟩ : ∃ t : Int, (p.DX : Int) = t := ⟨_, rfl⟩
      obtain ⟨t3, ht3⟩ : ∃ t : Int, (p.DY : Int) = t := ⟨_, rfl⟩
      obtain ⟨t4, ht4⟩ : ∃ t, ck.span x p.X p.DX = t := ⟨_, rfl⟩
      obtain ⟨t5, ht5⟩ : ∃ t, ck.span y p.Y p.DY = t := ⟨_, rfl⟩
      rw [ht4] at x4 y4
      rw [ht5] at x5 y5
      rw [ht0] at x0 y0
      rw [ht1] at x1 y1
      rw [ht2] at x2 y2
      rw [ht3] at x3 y3
      clear ht0 ht1 ht2 ht3 ht4 ht5 hp
      replace x0 := cell_regrown x0
      replace x1 := cell_regrown x1
      replace x2 := cell_regrown x2
      replace x3 := cell_regrown x3
      replace x4 := cell_regrown x4
      replace x5 := cell_regrown x5
      replace y0 := cell_regrown y0
      replace y1 := cell_regrown y1
      replace y2 := cell_regrown y2
      replace y3 := cell_regrown y3
      replace y4 := cell_regrown y4
      replace y5 := cell_regrown y5
      go_wp2_with fail
      refine wp_region_quiet_below (by kernel_rfl) (by kernel_rfl) ?_
      repeat (go_big_quiet_step (fail))
      refine wpQuiet_nil ?_
      intro _ hw'
      obtain ⟨⟨dq, osq⟩, hw''⟩ := hw'
      subst hw''
      have HB5 := Lib.hid (HBr.out.trans ((below_regrown wr dq osq).mono HBr.out.size))
      clear x0 x1 x2 x3 x4 x5 y0 y1 y2 y3 y4 y5
      generalize grow (redrawn wr dq) osq = w5 at *
      go_wp2_with fail
      go_roundg (n - (k + 1))
      case measure => have := Hg.out; omega
      case rel => exact ⟨k + 1, by omega, rfl, by go_num, HB5.out⟩
    · obtain rfl : k = n := by omega
      have HBx := Lib.hid (HB3.out.trans (HBr.out.mono HB3.out.size))
      by_cases s1 : x < 1
      · go_wp2_with fail
        go_ret
        exact ⟨rfl, HBx.out⟩
      by_cases s2 : y < 1
      · go_wp2_with fail
        go_ret
        exact ⟨rfl, HBx.out⟩
      by_cases s3 : 40 < x
      · go_wp2_with fail
        go_ret
        exact ⟨rfl, HBx.out⟩
      by_cases s4 : 40 < y
      · go_wp2_with fail
        go_ret
        exact ⟨rfl, HBx.out⟩
      obtain ⟨wn, rfl⟩ : ∃ wn : Nat, x = wn := ⟨x.toNat, by omega⟩
      have HW1 : Hid (0 < wn) := Lib.hid (by omega)
      obtain ⟨hn, rfl⟩ : ∃ hn : Nat, y = hn := ⟨y.toNat, by omega⟩
      obtain ⟨m, hm⟩ : ∃ m, m = wn * hn := ⟨_, rfl⟩
      have hm2 : m ≤ 40 * 40 := by rw [hm]; exact Nat.mul_le_mul (by omega) (by omega)
      have hmul : (wn : Int) * (hn : Int) = (m : Int) := by rw [hm]; push_cast; rfl
      have hmw : wrap64 ((wn : Int) * (hn : Int)) = (m : Int) := by rw [hmul]; unfold wrap64; omega
      have hmw2 : IntKind.i64.wrap ((wn : Int) * (hn : Int)) = (m : Int) := by rw [hmul]; exact IntWalk.i64_in _ (by omega)
      have hwr : wrap64 (m : Int) = (m : Int) := by unfold wrap64; omega
      have mk := fun u => run_make_row' (P := Tryd.prog) 54 3 (.int .i64 0) 8 Tryd.underlying54 infoI64z rfl .i64 .i64 m (by omega) (by omega) u
      have HM := Lib.hid hm
      clear hm hlt hk
      go_wp2_with fail
      have hrow := World.rowIs_made wr (.int .i64 0) m 3
      have hbe := (Below.refl wr.heap.size wr).alloc (Nat.le_refl _) (.cells (madeCells #[.int .i64 0] m) 3)
      generalize wr.alloc (.cells (madeCells #[.int .i64 0] m) 3) = wa at *
      have HROW := Lib.hid hrow
      have HBE := Lib.hid hbe
      clear hrow hbe mk hmul hmw hmw2 hwr
      obtain ⟨wo, hwo⟩ : ∃ x, x = wr := ⟨_, rfl⟩
      subst hwo
      clear s1 s2
      go_loopg [70] k (fun gk i wr => ∃ i' : Nat, i' ≤ k ∧ gk = k - i' ∧ i = .int .i64 i' ∧ wr.rowIs wo.heap.size 3 m (fun c => .int .i64 ((ck.count (P.take i') (c / wn) (c % wn) : Nat) : Int)) ∧ Below wo.heap.size wo wr)
      case atStart => exact ⟨0, Nat.zero_le _, rfl, rfl, HROW.out, HBE.out⟩
      case round =>
        obtain ⟨w7, hw7⟩ : ∃ x, x = wr := ⟨_, rfl⟩
        subst hw7
        obtain ⟨i, hi, hgi, rfl, hrw, hbl⟩ := hrel
        have Hgi := Lib.hid hgi
        have HRW := Lib.hid hrw
        have HBL := Lib.hid hbl
        clear hgi hrw hbl
        by_cases hlt : i < k
        · obtain ⟨p, hp⟩ : ∃ p, P[i]? = some p := ⟨P[i]'(by rw [HN.out]; exact hlt), List.getElem?_eq_getElem _⟩
          have hmem : p ∈ ck.passes wn hn := by rw [HP.out]; exact List.mem_of_getElem? hp
          obtain ⟨ht, hx1, hy1⟩ := ck.mem_tab hmem
          have HT := Lib.hid ht
          have htk : P.take (i + 1) = P.take i ++ [p] := by rw [List.take_add_one, hp]; rfl
          have HTK := Lib.hid htk
          have hd : 1 ≤ p.DX ∧ 1 ≤ p.DY := by
            simp only [ck.passTab, List.mem_cons, List.not_mem_nil, or_false] at ht
            rcases ht with rfl | rfl | rfl | rfl | rfl | rfl | rfl <;> decide
          obtain ⟨PW, pw1, pw2, pw3, pw4⟩ := ck.span_nat (s := wn) (X := p.X) (D := p.DX) (by omega) hd.1
          obtain ⟨PH, ph1, ph2, ph3, ph4⟩ := ck.span_nat (s := hn) (X := p.Y) (D := p.DY) (by omega) hd.2
          rcases HE3.out with h0 | ⟨g1, rfl, _, q1, hc1⟩
          · omega
          have HC6 : Hid (∀ W : World, Below wo.heap.size wo W → W.cell? ⟨g1, i * 6, none⟩ = some (.int .i64 p.X) ∧ W.cell? ⟨g1, i * 6 + 1, none⟩ = some (.int .i64 p.Y) ∧ W.cell? ⟨g1, i * 6 + 2, none⟩ = some (.int .i64 p.DX) ∧ W.cell? ⟨g1, i * 6 + 3, none⟩ = some (.int .i64 p.DY) ∧ W.cell? ⟨g1, i * 6 + 4, none⟩ = some (.int .i64 PW) ∧ W.cell? ⟨g1, i * 6 + 5, none⟩ = some (.int .i64 PH)) := Lib.hid (fun W hW => by
            have := pass_six hp (W := W) (fun i v h => keep_cell hW (keep_cell HBr.out (keep_cell HBw.out (hc1 i v h))))
            rw [pw1, ph1] at this
            exact this)
          have PW2 := Lib.hid pw2
          have PW3 := Lib.hid pw3
          have PH2 := Lib.hid ph2
          have PH3 := Lib.hid ph3
          have z1 := HE1.out
          clear q1 hc1 hp hmem ht hx1 hy1 htk pw1 pw2 pw3 ph1 ph2 ph3
          go_wp2_with fail
          go_loopg [12] PH (fun gk i' wr => ∃ y' : Nat, y' ≤ PH ∧ gk = PH - y' ∧ i' = .int .i64 y' ∧ wr.rowIs wo.heap.size 3 m (fun c => .int .i64 ((ck.count (P.take i) (c / wn) (c % wn) + (if ck.before p y' 0 (c / wn) (c % wn) then 1 else 0) : Nat) : Int)) ∧ Below wo.heap.size wo wr)
          case atStart => exact ⟨0, Nat.zero_le _, rfl, rfl, HRW.out.congr (fun c _ => by rw [if_neg (ck.before_none p _ _), Nat.add_zero]), HBL.out⟩
          case round =>
            obtain ⟨w8, hw8⟩ : ∃ x, x = wr := ⟨_, rfl⟩
            subst hw8
            obtain ⟨y', hy', hgy, rfl, hrw, hbl⟩ := hrel
            have Hgy := Lib.hid hgy
            have HRW8 := Lib.hid hrw
            have HBL8 := Lib.hid hbl
            clear hgy hrw hbl
            obtain ⟨c0, c1', c2', c3, c4, c5⟩ := HC6.out w8 HBL8.out
            by_cases hlty : y' < PH
            · have hR := PH2.out y' hlty
              have HR := Lib.hid hR
              clear hR
              go_wp2_with fail
              clear c0 c1' c2' c3 c4 c5
              go_loopg [13] PW (fun gk i' wr => ∃ x' : Nat, x' ≤ PW ∧ gk = PW - x' ∧ i' = .int .i64 x' ∧ wr.rowIs wo.heap.size 3 m (fun c => .int .i64 ((ck.count (P.take i) (c / wn) (c % wn) + (if ck.before p y' x' (c / wn) (c % wn) then 1 else 0) : Nat) : Int)) ∧ Below wo.heap.size wo wr)
              case atStart => exact ⟨0, Nat.zero_le _, rfl, rfl, HRW8.out, HBL8.out⟩
              case round =>
                obtain ⟨w9, hw9⟩ : ∃ x, x = wr := ⟨_, rfl⟩
                subst hw9
                obtain ⟨x', hx', hgx, rfl, hrw, hbl⟩ := hrel
                have Hgx := Lib.hid hgx
                have HRW9 := Lib.hid hrw
                have HBL9 := Lib.hid hbl
                clear hgx hrw hbl
                obtain ⟨c0, c1', c2', c3, c4, c5⟩ := HC6.out w9 HBL9.out
                by_cases hltx : x' < PW
                · have hQ := PW2.out x' hltx
                  have hR := HR.out
                  have hin := place_in (w := wn) (h := hn) (R := p.Y + y' * p.DY) (Q := p.X + x' * p.DX) hR hQ
                  rw [← HM.out] at hin
                  have HIX := Lib.hid (place_eq (w := wn) (R := p.Y + y' * p.DY) (Q := p.X + x' * p.DX) hQ)
                  have e1 : (y' : Int) * (p.DY : Int) = ((y' * p.DY : Nat) : Int) := by push_cast; rfl
                  have e2 : ((p.Y : Int) + ((y' * p.DY : Nat) : Int)) * (wn : Int) = (((p.Y + y' * p.DY) * wn : Nat) : Int) := by push_cast; rfl
                  have e3 : (x' : Int) * (p.DX : Int) = ((x' * p.DX : Nat) : Int) := by push_cast; rfl
                  have hN := HRW9.out.cell hin
                  have HIN := Lib.hid hin
                  obtain ⟨N0, hN0⟩ : ∃ z : Nat, ck.count (P.take i) (((p.Y + y' * p.DY) * wn + (p.X + x' * p.DX)) / wn) (((p.Y + y' * p.DY) * wn + (p.X + x' * p.DX)) % wn) + (if ck.before p y' x' (((p.Y + y' * p.DY) * wn + (p.X + x' * p.DX)) / wn) (((p.Y + y' * p.DY) * wn + (p.X + x' * p.DX)) % wn) then 1 else 0) = z := ⟨_, rfl⟩
                  have hN1 : N0 ≤ 8 := by
                    rw [← hN0]
                    have h1 := count_le (P.take i) (((p.Y + y' * p.DY) * wn + (p.X + x' * p.DX)) / wn) (((p.Y + y' * p.DY) * wn + (p.X + x' * p.DX)) % wn)
                    have h2 : (P.take i).length ≤ 7 := by rw [List.length_take, HN.out]; omega
                    split <;> omega
                  rw [hN0] at hN
                  have HN0 := Lib.hid hN0
                  obtain ⟨A, hA⟩ : ∃ A, y' * p.DY = A := ⟨_, rfl⟩
                  obtain ⟨C, hC⟩ : ∃ A, x' * p.DX = A := ⟨_, rfl⟩
                  have HA := Lib.hid hA
                  have HC := Lib.hid hC
                  rw [hA] at hR e1 e2 hN hin
                  rw [hC] at hQ e3 hN hin
                  obtain ⟨B, hB⟩ : ∃ Z, (p.Y + A) * wn = Z := ⟨_, rfl⟩
                  have HBB := Lib.hid hB
                  rw [hB] at e2 hN hin
                  have e5 : (B : Int) + (p.X : Int) + (C : Int) = ((B + (p.X + C) : Nat) : Int) := by omega
                  have w1' : IntKind.i64.wrap ((y' : Int) * (p.DY : Int)) = (A : Int) := by rw [e1]; exact IntWalk.i64_in _ (by omega)
                  have w2' : IntKind.i64.wrap (((p.Y : Int) + (A : Int)) * (wn : Int)) = (B : Int) := by rw [e2]; exact IntWalk.i64_in _ (by omega)
                  have w3' : IntKind.i64.wrap ((x' : Int) * (p.DX : Int)) = (C : Int) := by rw [e3]; exact IntWalk.i64_in _ (by omega)
                  have y0 := cell_regrown c0
                  have y1 := cell_regrown c1'
                  have y2 := cell_regrown c2'
                  have y3 := cell_regrown c3
                  have y4 := cell_regrown c4
                  have y5 := cell_regrown c5
                  have yN := cell_regrown hN
                  have bX : p.X < 40 := by omega
                  have bY : p.Y < 40 := by omega
                  have bA : A < 40 := by omega
                  have bC : C < 40 := by omega
                  have bi : B + (p.X + C) < 1600 := by omega
                  clear hA hC hB hN0 hQ hR
                  go_wp2_with fail
                  refine wp_region_quiet_tail 34 (by kernel_rfl) (by kernel_rfl) ?_
                  simp only [List.take_succ_cons, List.take_zero, List.drop_succ_cons, List.drop_zero]
                  repeat (go_big_quiet_step (fail))
                  refine wpQuiet_nil ?_
                  intro _ hw'
                  obtain ⟨⟨dq, osq⟩, hw''⟩ := hw'
                  subst hw''
                  have hbq := below_regrown w9 dq osq
                  clear c0 c1' c2' c3 c4 c5 y0 y1 y2 y3 y4 y5 yN hN
                  generalize grow (redrawn w9 dq) osq = wq at *
                  have HRq := Lib.hid (HRW9.out.of_block (hbq.block _ HRW9.out.lt))
                  have HBq := Lib.hid (HBL9.out.trans (hbq.mono HBL9.out.size))
                  have cn := HRq.out.cell hin
                  have fn := HRq.out.frozen (B + (p.X + C))
                  clear hbq
                  go_wp2_with fail
                  go_roundg (PW - (x' + 1))
                  case measure => have := Hgx.out; omega
                  case rel => exact ⟨x' + 1, by omega, rfl, by go_num, (HRq.out.set (B + (p.X + C)) (.int .i64 ((N0 : Int) + 1))).congr (fun c _ => by
                    have hb := ck.before_succ HT.out y' x' (c / wn) (c % wn)
                    have hidx : (p.Y + y' * p.DY) * wn + (p.X + x' * p.DX) = B + (p.X + C) := by rw [HA.out, HC.out, HBB.out]
                    have hiff := HIX.out c
                    have hn := HN0.out
                    rw [hidx] at hiff hn
                    by_cases hcx : c = B + (p.X + C)
                    · rw [← hcx] at hn
                      rw [if_pos hcx, hb, if_pos (hiff.2 hcx), ← hn]
                      congr 1
                    · rw [if_neg hcx, hb, if_neg (fun h => hcx (hiff.1 h)), Nat.add_zero]), HBq.out.setCell (p := ⟨wo.heap.size, _, none⟩) (Nat.le_refl _) _⟩
                · obtain rfl : x' = PW := by omega
                  go_wp2_with fail
                  go_roundg (PH - (y' + 1))
                  case measure => have := Hgy.out; omega
                  case rel => exact ⟨y' + 1, by omega, rfl, by go_num, HRW9.out.congr (fun c _ => by
                    have hq : c % wn < wn := Nat.mod_lt _ HW1.out
                    have hiff := ck.before_row (y := y') (r := c / wn) HT.out hq PW3.out
                    congr 3
                    by_cases hbf : ck.before p y' x' (c / wn) (c % wn)
                    · rw [if_pos hbf, if_pos (hiff.1 hbf)]
                    · rw [if_neg hbf, if_neg (fun h => hbf (hiff.2 h))]), HBL9.out⟩
            · obtain rfl : y' = PH := by omega
              go_wp2_with fail
              go_roundg (k - (i + 1))
              case measure => have := Hgi.out; omega
              case rel => exact ⟨i + 1, by omega, rfl, by go_num, HRW8.out.congr (fun c hc => by
                have hrr : c / wn < hn := Nat.div_lt_of_lt_mul (by rw [← HM.out]; exact hc)
                have hiff := ck.before_all (q := c % wn) HT.out hrr PH3.out
                rw [HTK.out, ck.count_snoc]
                congr 3
                by_cases hbf : ck.before p y' 0 (c / wn) (c % wn)
                · rw [if_pos hbf, if_pos (hiff.1 hbf)]
                · rw [if_neg hbf, if_neg (fun h => hbf (hiff.2 h))]), HBL8.out⟩
        · obtain rfl : i = k := by omega
          have HON := Lib.hid (HRW.out.congr (g := fun _ => .int .i64 1) (fun c hc => by
            have hrr : c / wn < hn := Nat.div_lt_of_lt_mul (by rw [← HM.out]; exact hc)
            have hq : c % wn < wn := Nat.mod_lt _ HW1.out
            rw [List.take_of_length_le (by rw [HN.out]; exact Nat.le_refl _), ← HP.out, ck.count_one hrr hq]
            rfl))
          have HBz := Lib.hid (HBx.out.trans (HBL.out.mono HBx.out.size))
          go_wp2_with fail
          go_loopg [128] m (fun gk i wr => ∃ c : Nat, c ≤ m ∧ gk = m - c ∧ i = .int .i64 c ∧ wr = w7)
          case atStart => exact ⟨0, Nat.zero_le _, rfl, rfl, rfl⟩
          case round =>
            obtain ⟨c, hc, hgc, rfl, rfl⟩ := hrel
            have Hgc := Lib.hid hgc
            clear hgc
            by_cases hltc : c < m
            · have cn := HON.out.cell hltc
              go_wp2_with fail
              go_roundg (m - (c + 1))
              case measure => have := Hgc.out; omega
              case rel => exact ⟨c + 1, by omega, rfl, by go_num, rfl⟩
            · obtain rfl : c = m := by omega
              go_wp2_with fail
              go_ret
              exact ⟨rfl, HBz.out⟩
end Go.Proofs.YtfaemhmefijaoaaDoor
