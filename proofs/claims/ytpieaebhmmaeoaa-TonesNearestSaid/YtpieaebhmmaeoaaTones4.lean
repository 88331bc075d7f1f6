/- The walks of Nearest: the nearest colour of a palette, of several the first. -/
import Derived.Test.YtpieaebhmmaeoaaTones2
import Derived.Deep.LoopGhost
import Derived.Deep.DeepCutAuto
namespace Go.Proofs.Ytpieaebhmmaeoaa
open Go.RowKit

/-- a colour -/
structure C4 where
  r : Int
  g : Int
  b : Int
  a : Int
def C4.ok (c : C4) : Prop := (0 ≤ c.r ∧ c.r ≤ 65535) ∧ (0 ≤ c.g ∧ c.g ≤ 65535) ∧ (0 ≤ c.b ∧ c.b ≤ 65535) ∧ (0 ≤ c.a ∧ c.a ≤ 65535)
def C4.far (c d : C4) : Int := tm.far c.r c.g c.b d.r d.g d.b
def C4.zero : C4 := ⟨0, 0, 0, 0⟩

/-- what a list of colours is read from -/
def RdC (w : World) (a : Option Addr) (l : List C4) : Prop :=
  l = [] ∨ ∃ b off, a = some ⟨b, off, none⟩ ∧ ∀ i, i < l.length →
    w.cell? ⟨b, off + i * 4, none⟩ = some (.int .u16 (l.getD i C4.zero).r) ∧ w.cell? ⟨b, off + i * 4 + 1, none⟩ = some (.int .u16 (l.getD i C4.zero).g) ∧
    w.cell? ⟨b, off + i * 4 + 2, none⟩ = some (.int .u16 (l.getD i C4.zero).b) ∧ w.cell? ⟨b, off + i * 4 + 3, none⟩ = some (.int .u16 (l.getD i C4.zero).a)

/-- the nearest of the first k, of several the first: its place (none: -1) -/
def near (l : List C4) (c : C4) : Nat → Int
  | 0 => -1
  | k + 1 => if near l c k < 0 ∨ (l.getD k C4.zero).far c < (l.getD (near l c k).toNat C4.zero).far c then (k : Int) else near l c k

theorem near_range (l : List C4) (c : C4) (k : Nat) : -1 ≤ near l c k ∧ near l c k < k ∧ (0 < k → 0 ≤ near l c k) := by
  induction k with
  | zero => simp [near]
  | succ k ih =>
    unfold near
    split
    · omega
    · rename_i h
      omega

set_option maxRecDepth 100000 in
set_option maxHeartbeats 800000 in
theorem nearest_any (a : Option Addr) (n cap : Nat) (l : List C4) (c : C4) (w : World) (hn : l.length = n) (hm : n ≤ maxLen) (hok : ∀ x ∈ l, x.ok) (hc : c.ok) (hr : RdC w a l) :
    Calls Try.prog 21 #[.slice a n cap, .agg #[.int .u16 c.r, .int .u16 c.g, .int .u16 c.b, .int .u16 c.a]] w fun e w' => e = .returned (.int .i64 (near l c n)) ∧ Below w.heap.size w w' := by
  unfold maxLen at hm
  have Hr := Lib.hid hr
  have Hn := Lib.hid hn
  have Hok := Lib.hid hok
  clear hr hn hok
  obtain ⟨hc1, hc2, hc3, hc4⟩ := hc
  go_enter Try.func21, Try.ntmps21
  go_wp2
  go_loopg [5, 6, 15] n (fun gk s5 s6 i wr => ∃ (k : Nat) (p q : Int), k ≤ n ∧ gk = n - k ∧ i = .int .i64 k ∧ s5 = .int .i64 p ∧ s6 = .int .i64 q ∧ p = near l c k ∧ q = (if near l c k < 0 then 0 else (l.getD (near l c k).toNat C4.zero).far c) ∧ Below w.heap.size w wr ∧
    wr.cell? ⟨w.heap.size, 0, none⟩ = some (.int .u16 c.r) ∧ wr.cell? ⟨w.heap.size, 1, none⟩ = some (.int .u16 c.g) ∧ wr.cell? ⟨w.heap.size, 2, none⟩ = some (.int .u16 c.b) ∧ w.heap.size < wr.heap.size)
  case atStart => exact ⟨0, _, _, by omega, rfl, rfl, rfl, rfl, rfl, rfl, (Below.refl _ _).alloc (Nat.le_refl _) _, by rw [World.cell?_alloc_at _ _ _ _ rfl]; rfl, by rw [World.cell?_alloc_at _ _ _ _ rfl]; rfl, by rw [World.cell?_alloc_at _ _ _ _ rfl]; rfl, by simp⟩
  case round =>
    obtain ⟨k, p, q, hk, hg, rfl, rfl, rfl, hp, hq, hnx, x1, x2, x3, hsz⟩ := hrel
    have Hg := Lib.hid hg
    have Hnx := Lib.hid hnx
    have Hp := Lib.hid hp
    have Hq := Lib.hid hq
    have hpr := near_range l c k
    rw [← hp] at hpr
    clear hg hnx hp hq
    by_cases hlt : k < n
    · rcases Hr.out with h0 | ⟨b, off, rfl, hcell⟩
      · have := Hn.out; rw [h0] at this; simp at this; omega
      · obtain ⟨y0, y1, y2, y3⟩ := hcell k (by rw [Hn.out]; exact hlt)
        have hbl : b < w.heap.size := block_lt_of_cell y0
        rw [← Hnx.out.cell (p := ⟨b, _, none⟩) hbl] at y0 y1 y2 y3
        clear hcell
        have hxm : l.getD k C4.zero ∈ l := by
          rw [List.getD_eq_getElem?_getD, List.getElem?_eq_getElem (by rw [Hn.out]; exact hlt)]; exact List.getElem_mem _
        obtain ⟨hx1, hx2, hx3, hx4⟩ := Hok.out _ hxm
        have HS : Hid (near l c (k + 1) = if near l c k < 0 ∨ (l.getD k C4.zero).far c < (l.getD (near l c k).toNat C4.zero).far c then (k : Int) else near l c k) := Lib.hid rfl
        have HX : Hid ((l.getD k C4.zero).far c = tm.far (l.getD k C4.zero).r (l.getD k C4.zero).g (l.getD k C4.zero).b c.r c.g c.b) := Lib.hid rfl
        have q1 := tm.sq_range hx1 hc1
        have q2 := tm.sq_range hx2 hc2
        have q3 := tm.sq_range hx3 hc3
        clear hxm
        obtain ⟨x, hx⟩ : ∃ x, x = l.getD k C4.zero := ⟨_, rfl⟩
        have Hx := Lib.hid hx
        rw [← hx] at y0 y1 y2 y3 hx1 hx2 hx3 hx4 q1 q2 q3 HX
        clear hx
        have HD : Hid (p < 0 ∨ (0 ≤ p ∧ (x.r - c.r) * (x.r - c.r) + (x.g - c.g) * (x.g - c.g) + (x.b - c.b) * (x.b - c.b) < q) → near l c (k + 1) = (k : Int)) := Lib.hid (by
          intro h
          rw [HS.out, ← Hp.out, if_pos]
          rcases h with h | ⟨h1, h2⟩
          · exact .inl h
          · refine .inr ?_
            rw [Hq.out, if_neg (by rw [← Hp.out]; omega), ← Hp.out] at h2
            rw [← Hx.out]
            exact h2)
        have HN : Hid (0 ≤ p ∧ ¬ ((x.r - c.r) * (x.r - c.r) + (x.g - c.g) * (x.g - c.g) + (x.b - c.b) * (x.b - c.b) < q) → near l c (k + 1) = near l c k) := Lib.hid (by
          intro h
          rw [HS.out, ← Hp.out, if_neg]
          intro h'
          rcases h' with h' | h'
          · omega
          · refine h.2 ?_
            rw [Hq.out, if_neg (by rw [← Hp.out]; omega), ← Hp.out]
            rw [← Hx.out] at h'
            exact h')
        have HF : Hid (near l c (k + 1) = (k : Int) → (x.r - c.r) * (x.r - c.r) + (x.g - c.g) * (x.g - c.g) + (x.b - c.b) * (x.b - c.b) = if near l c (k + 1) < 0 then 0 else (l.getD (near l c (k + 1)).toNat C4.zero).far c) := Lib.hid (by
          intro h
          rw [h, if_neg (by omega), Int.toNat_natCast, ← Hx.out, HX.out]
          rfl)
        clear HS HX
        have hcase : p < 0 ∨ (0 ≤ p ∧ (x.r - c.r) * (x.r - c.r) + (x.g - c.g) * (x.g - c.g) + (x.b - c.b) * (x.b - c.b) < q) ∨ (0 ≤ p ∧ ¬ ((x.r - c.r) * (x.r - c.r) + (x.g - c.g) * (x.g - c.g) + (x.b - c.b) * (x.b - c.b) < q)) := by omega
        have hnew : ∀ v, (wr.alloc v).heap.size = wr.heap.size + 1 := fun v => by simp
        have Hnew := Lib.hid hnew
        clear hnew
        have HB : Hid (∀ o nq, Below w.heap.size w ((wr.alloc o).drewN nq)) := Lib.hid (fun o nq => below_drewN (Hnx.out.alloc Hnx.out.size o) nq)
        have HC : Hid (∀ o nq j, ((wr.alloc o).drewN nq).cell? ⟨w.heap.size, j, none⟩ = wr.cell? ⟨w.heap.size, j, none⟩) := Lib.hid (fun o nq j => World.cell?_alloc_past o w.heap.size j hsz)
        have HZ : Hid (∀ o nq, w.heap.size < ((wr.alloc o).drewN nq).heap.size) := Lib.hid (fun o nq => by show w.heap.size < (wr.alloc o).heap.size; simp; omega)
        rcases hcase with h | ⟨h0, h⟩ | ⟨h0, h⟩
        · have HD1 := Lib.hid (HD.out (.inl h))
          have HF1 := Lib.hid (HF.out HD1.out)
          go_wp2
          go_quiet (fail)
          go_wp2
          go_roundg (n - (k + 1))
          case measure => have := Hg.out; omega
          case rel => exact ⟨k + 1, _, _, by omega, rfl, by go_num, rfl, rfl, HD1.out.symm, HF1.out, HB.out _ _, (HC.out _ _ _).trans x1, (HC.out _ _ _).trans x2, (HC.out _ _ _).trans x3, HZ.out _ _⟩
        · have HD1 := Lib.hid (HD.out (.inr ⟨h0, h⟩))
          have HF1 := Lib.hid (HF.out HD1.out)
          have h0' : ¬ p < 0 := by omega
          go_wp2
          go_quiet (fail)
          go_wp2
          go_roundg (n - (k + 1))
          case measure => have := Hg.out; omega
          case rel => exact ⟨k + 1, _, _, by omega, rfl, by go_num, rfl, rfl, HD1.out.symm, HF1.out, HB.out _ _, (HC.out _ _ _).trans x1, (HC.out _ _ _).trans x2, (HC.out _ _ _).trans x3, HZ.out _ _⟩
        · have HN1 := Lib.hid (HN.out ⟨h0, h⟩)
          have h0' : ¬ p < 0 := by omega
          go_wp2
          go_quiet (fail)
          go_wp2
          go_roundg (n - (k + 1))
          case measure => have := Hg.out; omega
          case rel => exact ⟨k + 1, _, _, by omega, rfl, by go_num, rfl, rfl, Hp.out.trans HN1.out.symm, Hq.out.trans (by rw [HN1.out]), HB.out _ _, (HC.out _ _ _).trans x1, (HC.out _ _ _).trans x2, (HC.out _ _ _).trans x3, HZ.out _ _⟩
    · obtain rfl : k = n := by omega
      go_wp2
      go_ret
      exact ⟨by rw [← Hp.out]; rfl, Hnx.out⟩
end Go.Proofs.Ytpieaebhmmaeoaa
