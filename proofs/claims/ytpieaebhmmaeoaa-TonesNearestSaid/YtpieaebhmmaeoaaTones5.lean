/- The reference's Nearest is the same. -/
import Derived.Test.YtpieaebhmmaeoaaTones4
import Derived.Deep.RegionHeld3
namespace Go.Proofs.Ytpieaebhmmaeoaa
open Go.RowKit

theorem keep_cell {w w1 : World} {a : Addr} {v : Value} (hb : Below w.heap.size w w1) (h : w.cell? a = some v) : w1.cell? a = some v := (hb.cell (block_lt_of_cell h)).trans h
theorem far_c4 (x c : C4) (hx : x.ok) (hc : c.ok) (w : World) :
    Calls Try.prog 23 #[.agg #[.int .u16 x.r, .int .u16 x.g, .int .u16 x.b, .int .u16 x.a], .agg #[.int .u16 c.r, .int .u16 c.g, .int .u16 c.b, .int .u16 c.a]] w fun e w' => e = .returned (.int .i64 (x.far c)) ∧ Below w.heap.size w w' :=
  far_any x.r x.g x.b x.a c.r c.g c.b c.a w hx.1 hx.2.1 hx.2.2.1 hc.1 hc.2.1 hc.2.2.1

set_option maxRecDepth 100000 in
set_option maxHeartbeats 1600000 in
theorem refNearest_any (a : Option Addr) (n cap : Nat) (l : List C4) (c : C4) (w : World) (hn : l.length = n) (hm : n ≤ maxLen) (hok : ∀ x ∈ l, x.ok) (hc : c.ok) (hr : RdC w a l) :
    Calls Try.prog 22 #[.slice a n cap, .agg #[.int .u16 c.r, .int .u16 c.g, .int .u16 c.b, .int .u16 c.a]] w fun e w' => e = .returned (.int .i64 (near l c n)) ∧ Below w.heap.size w w' := by
  unfold maxLen at hm
  have Hr := Lib.hid hr
  have Hn := Lib.hid hn
  have Hok := Lib.hid hok
  have Hc := Lib.hid hc
  clear hr hn hok hc
  go_enter Try.func22, Try.ntmps22
  go_wp2
  go_loopg [5, 6] n (fun gk s5 i wr => ∃ (k : Nat) (p : Int), k ≤ n ∧ gk = n - k ∧ i = .int .i64 k ∧ s5 = .int .i64 p ∧ p = near l c k ∧ Below w.heap.size w wr ∧
    wr.cell? ⟨w.heap.size, 0, none⟩ = some (.int .u16 c.r) ∧ wr.cell? ⟨w.heap.size, 1, none⟩ = some (.int .u16 c.g) ∧ wr.cell? ⟨w.heap.size, 2, none⟩ = some (.int .u16 c.b) ∧ wr.cell? ⟨w.heap.size, 3, none⟩ = some (.int .u16 c.a) ∧ w.heap.size < wr.heap.size)
  case atStart => exact ⟨0, _, by omega, rfl, rfl, rfl, rfl, (Below.refl _ _).alloc (Nat.le_refl _) _, by rw [World.cell?_alloc_at _ _ _ _ rfl]; rfl, by rw [World.cell?_alloc_at _ _ _ _ rfl]; rfl, by rw [World.cell?_alloc_at _ _ _ _ rfl]; rfl, by rw [World.cell?_alloc_at _ _ _ _ rfl]; rfl, by simp⟩
  case round =>
    obtain ⟨k, p, hk, hg, rfl, rfl, hp, hnx, x1, x2, x3, x4, hsz⟩ := hrel
    have Hg := Lib.hid hg
    have Hnx := Lib.hid hnx
    have Hp := Lib.hid hp
    have hpr := near_range l c k
    rw [← hp] at hpr
    have Hsz := Lib.hid hsz
    clear hg hnx hp hsz
    by_cases hlt : k < n
    · have HS : Hid (near l c (k + 1) = if near l c k < 0 ∨ (l.getD k C4.zero).far c < (l.getD (near l c k).toNat C4.zero).far c then (k : Int) else near l c k) := Lib.hid rfl
      by_cases h0 : p < 0
      · have HD : Hid (near l c (k + 1) = (k : Int)) := Lib.hid (by rw [HS.out, ← Hp.out, if_pos (.inl h0)])
        go_wp2
        go_quiet (fail)
        go_wp2
        go_roundg (n - (k + 1))
        case measure => have := Hg.out; omega
        case rel => exact ⟨k + 1, _, by omega, rfl, by go_num, rfl, HD.out.symm, below_drewN Hnx.out _, x1, x2, x3, x4, Hsz.out⟩
      · obtain ⟨j, rfl⟩ := Int.eq_ofNat_of_zero_le (show 0 ≤ p by omega)
        rcases Hr.out with h0 | ⟨b, off, rfl, hcell⟩
        · have := Hn.out; rw [h0] at this; simp at this; omega
        · obtain ⟨y0, y1, y2, y3⟩ := hcell k (by rw [Hn.out]; exact hlt)
          obtain ⟨z0, z1, z2, z3⟩ := hcell j (by rw [Hn.out]; omega)
          have hbl : b < w.heap.size := block_lt_of_cell y0
          rw [← Hnx.out.cell (p := ⟨b, _, none⟩) hbl] at y0 y1 y2 y3 z0 z1 z2 z3
          clear hcell
          have hm1 : l.getD k C4.zero ∈ l := by
            rw [List.getD_eq_getElem?_getD, List.getElem?_eq_getElem (by rw [Hn.out]; exact hlt)]; exact List.getElem_mem _
          have hm2 : l.getD j C4.zero ∈ l := by
            rw [List.getD_eq_getElem?_getD, List.getElem?_eq_getElem (by rw [Hn.out]; omega)]; exact List.getElem_mem _
          have Hx := Lib.hid (Hok.out _ hm1)
          have Hy := Lib.hid (Hok.out _ hm2)
          rw [← Hp.out, Int.toNat_natCast] at HS
          generalize l.getD k C4.zero = x at *
          generalize l.getD j C4.zero = y at *
          have hj0 : (0 : Int) ≤ (j : Int) := by omega
          have hjn : (j : Int) < (n : Int) := by omega
          have hk0 : (0 : Int) ≤ (k : Int) := by omega
          have hkn : (k : Int) < (n : Int) := by omega
          clear hm1 hm2 h0
          go_upto_region 5 with fail
          go_cut [29] (fun s29 wx => s29 = .bool (decide (x.far c < y.far c)) ∧ Below wr.heap.size wr wx)
          case first =>
            have hcum := Lib.hid (Below.refl wr.heap.size wr)
            go_region_held3 (fun w' => w'.cell? ⟨b, off + k * 4, none⟩ = some (.int .u16 x.r) ∧ w'.cell? ⟨b, off + k * 4 + 1, none⟩ = some (.int .u16 x.g) ∧ w'.cell? ⟨b, off + k * 4 + 2, none⟩ = some (.int .u16 x.b) ∧ w'.cell? ⟨b, off + k * 4 + 3, none⟩ = some (.int .u16 x.a) ∧
                w'.cell? ⟨b, off + j * 4, none⟩ = some (.int .u16 y.r) ∧ w'.cell? ⟨b, off + j * 4 + 1, none⟩ = some (.int .u16 y.g) ∧ w'.cell? ⟨b, off + j * 4 + 2, none⟩ = some (.int .u16 y.b) ∧ w'.cell? ⟨b, off + j * 4 + 3, none⟩ = some (.int .u16 y.a) ∧
                w'.cell? ⟨w.heap.size, 0, none⟩ = some (.int .u16 c.r) ∧ w'.cell? ⟨w.heap.size, 1, none⟩ = some (.int .u16 c.g) ∧ w'.cell? ⟨w.heap.size, 2, none⟩ = some (.int .u16 c.b) ∧ w'.cell? ⟨w.heap.size, 3, none⟩ = some (.int .u16 c.a))
              (first
                | go_keep
                | (go_split_ands
                   refine ⟨?_, ?_, ?_, ?_, ?_, ?_, ?_, ?_, ?_, ?_, ?_, ?_⟩ <;> exact keep_cell hbl1.out (by assumption)))
              (first
                | (go_at_call 23; refine (far_c4 _ _ (by first | exact Hx.out | exact Hy.out) Hc.out _).mono ?_; rintro e w1 ⟨rfl, hb1⟩; have hbl1 := Lib.hid hb1; have hcum : Hid (Below wr.heap.size wr w1) := Lib.hid (by first | exact hcum.out.trans (hb1.mono hcum.out.size) | exact hcum.out.drew.trans (hb1.mono hcum.out.size)); clear hb1))
            go_wp2_with fail
            go_meet
            exact ⟨rfl, hcum.out⟩
          case rest =>
            obtain ⟨rfl, hb⟩ := hcut
            have HB := Lib.hid hb
            clear hb
            by_cases hd : x.far c < y.far c
            · have hd' : decide (x.far c < y.far c) = true := decide_eq_true hd
              have HD : Hid (near l c (k + 1) = (k : Int)) := Lib.hid (by rw [HS.out, if_pos (.inr hd)])
              clear hd
              generalize decide (x.far c < y.far c) = bb at *
              subst hd'
              go_wp2
              go_roundg (n - (k + 1))
              case measure => have := Hg.out; omega
              case rel => exact ⟨k + 1, _, by omega, rfl, by go_num, rfl, HD.out.symm, Hnx.out.trans (HB.out.mono Hnx.out.size), keep_cell HB.out x1, keep_cell HB.out x2, keep_cell HB.out x3, keep_cell HB.out x4, Nat.lt_of_lt_of_le Hsz.out HB.out.size⟩
            · have hd' : decide (x.far c < y.far c) = false := decide_eq_false hd
              have HD : Hid (near l c (k + 1) = (j : Int)) := Lib.hid (by rw [HS.out, if_neg (by omega)])
              clear hd
              generalize decide (x.far c < y.far c) = bb at *
              subst hd'
              go_wp2
              go_roundg (n - (k + 1))
              case measure => have := Hg.out; omega
              case rel => exact ⟨k + 1, _, by omega, rfl, by go_num, rfl, HD.out.symm, Hnx.out.trans (HB.out.mono Hnx.out.size), keep_cell HB.out x1, keep_cell HB.out x2, keep_cell HB.out x3, keep_cell HB.out x4, Nat.lt_of_lt_of_le Hsz.out HB.out.size⟩
    · obtain rfl : k = n := by omega
      go_wp2
      go_ret
      exact ⟨by rw [← Hp.out]; rfl, Hnx.out⟩
end Go.Proofs.Ytpieaebhmmaeoaa
