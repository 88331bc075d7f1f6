/- quant.Palette: few colours for many. -/
import Derived.Test.YtioeifbobhdccaaGreatDoorM22
import Derived.Test.YtioeifbobhdccaaGreatDoorM24
import Derived.Test.YtioeifbobhdccaaGreatDoorM27
import Derived.Test.YtioeifbobhdccaaGreatDoorM15
namespace Go.Proofs.YtioeifbobhdccaaGreatDoor
open Go.RowKit Go.Sort Go.Shelf Go.Maps
attribute [local go_sem] Oper.semAt_some
/-- a colour of eight bits a sample, solid -/
def C4.is8 (c : C4) : Prop := (∃ x : Int, (0 ≤ x ∧ x ≤ 255) ∧ c.r = 257 * x) ∧ (∃ x : Int, (0 ≤ x ∧ x ≤ 255) ∧ c.g = 257 * x) ∧ (∃ x : Int, (0 ≤ x ∧ x ≤ 255) ∧ c.b = 257 * x) ∧ c.a = 65535
theorem C4.eight_is8 {c : C4} (h : c.ok) : c.eight.is8 :=
  ⟨⟨_, downV_range h.1, rfl⟩, ⟨_, downV_range h.2.1, rfl⟩, ⟨_, downV_range h.2.2.1, rfl⟩, rfl⟩
theorem C4.is8.ok {c : C4} (h : c.is8) : c.ok := by
  obtain ⟨⟨x, hx, e1⟩, ⟨y, hy, e2⟩, ⟨z, hz, e3⟩, e4⟩ := h
  refine ⟨?_, ?_, ?_, ?_⟩ <;> omega
def all8 (t : List C4) : Prop := ∀ c ∈ t, c.is8
theorem all8.ok {t : List C4} (h : all8 t) : okAll t := fun c hc => (h c hc).ok
theorem nodup_le {α : Type} [DecidableEq α] : ∀ (a b : List α), a.Nodup → (∀ x ∈ a, x ∈ b) → a.length ≤ b.length
  | [], b, _, _ => Nat.zero_le _
  | x :: r, b, hn, hs => by
    have hx := hs x List.mem_cons_self
    have hl := nodup_le r (b.erase x) (List.nodup_cons.1 hn).2 (fun y hy => (List.mem_erase_of_ne (by rintro rfl; exact (List.nodup_cons.1 hn).1 hy)).2 (hs y (List.mem_cons_of_mem _ hy)))
    rw [List.length_erase_of_mem hx] at hl
    have := List.length_pos_of_mem hx
    simp only [List.length_cons]
    omega
theorem cols_mem {l : List Int} {N : Nat} {c : C4} : c ∈ cols l N ↔ ∃ k, k < N ∧ pix l k = c := by simp [cols]
/-- between two rounds of the first loop -/
structure PalRel (w : World) (cs : List C4) (vc : Value) (base mb m : Nat) (i : Nat) (s7 : Value) (wr : World) : Prop where
  src : OwnC w.heap.size wr vc cs
  ex : ∃ (cnt : Nat) (met all : List C4), OwnC base wr s7 all ∧ SetC wr mb cnt met ∧ cnt ≤ m ∧ all.length ≤ m ∧ all8 all ∧ (∀ c ∈ met, c ∈ all) ∧ ((∃ j, j < i ∧ ∃ c, cs[j]? = some c ∧ 32768 ≤ c.a) → all ≠ [])
  below : Below w.heap.size w wr
  size : base ≤ wr.heap.size
def sumLen (xs : List (Hd × List C4)) : Nat := (xs.map fun p => p.2.length).sum
theorem sumLen_append (xs ys : List (Hd × List C4)) : sumLen (xs ++ ys) = sumLen xs + sumLen ys := by simp [sumLen]
theorem sumLen_one (p : Hd × List C4) : sumLen [p] = p.2.length := by simp [sumLen]
theorem sumLen_erase : ∀ (xs : List (Hd × List C4)) (i : Nat) (p : Hd × List C4), xs[i]? = some p → sumLen (xs.eraseIdx i) + p.2.length = sumLen xs
  | [], i, p, h => by simp at h
  | x :: r, 0, p, h => by
    simp only [List.getElem?_cons_zero, Option.some.injEq] at h
    subst h
    simp [sumLen, Nat.add_comm]
  | x :: r, i + 1, p, h => by
    have := sumLen_erase r i p (by simpa using h)
    simp only [sumLen, List.eraseIdx_cons_succ, List.map_cons, List.sum_cons] at this ⊢
    omega
theorem sumLen_small : ∀ (xs : List (Hd × List C4)) (m : Nat), (∀ q ∈ xs, q.2.length ≤ m) → sumLen xs ≤ xs.length * m
  | [], m, _ => by simp [sumLen]
  | x :: r, m, h => by
    have h1 := sumLen_small r m (fun q hq => h q (List.mem_cons_of_mem _ hq))
    have h2 := h x List.mem_cons_self
    simp only [sumLen, List.map_cons, List.sum_cons, List.length_cons, Nat.succ_mul] at h1 ⊢
    omega
theorem PartC.bagKeep {base : Nat} {w w' : World} {h : Hd} {t : List C4} (hp : PartC w h t) (k : BagKeep base w w') : PartC w' h t := by
  obtain ⟨g, off, cap, cur, h1, h2, h3, h4, h5⟩ := hp
  exact ⟨g, off, cap, cur, h1, h2, h3, k.oth g cur _ h4 (by decide) (by decide), h5⟩
def goodBoxes (xs : List (Hd × List C4)) : Prop := ∀ p ∈ xs, p.2 ≠ [] ∧ all8 p.2
def BagRel (w : World) (bg L most : Nat) (gk : Nat) (wr : World) : Prop :=
  ∃ v xs, gk = most - xs.length ∧ BagAt bg wr bg v xs ∧ 1 ≤ xs.length ∧ xs.length ≤ most ∧ goodBoxes xs ∧ sumLen xs = L ∧ Below w.heap.size w wr ∧ bg ≤ wr.heap.size
def PalPost (l : List Int) (N most : Nat) (w : World) (e : Ending) (w' : World) : Prop :=
  ∃ v P, e = .returned (.tuple #[v, .int .i64 0]) ∧ OwnC w.heap.size w' v P ∧ all8 P ∧ P.length ≤ most ∧ ((∃ k, k < N ∧ 32768 ≤ (pix l k).a) → P ≠ []) ∧ Below w.heap.size w w'
theorem PalRel.at_below {w wr w' : World} {cs : List C4} {vc s7 : Value} {base mb m i : Nat} (h : PalRel w cs vc base mb m i s7 wr) (hb : Below wr.heap.size wr w') : PalRel w cs vc base mb m i s7 w' := by
  obtain ⟨cnt, met, all, h1, h2, h3⟩ := h.ex
  exact ⟨h.src.below hb, ⟨cnt, met, all, h1.below hb, h2.same (fun o ho => (hb.block _ (block_lt ho)).trans ho), h3⟩, h.below.trans (hb.mono h.below.size), Nat.le_trans h.size hb.size⟩
theorem PalRel.next {w wr : World} {cs : List C4} {vc s7 : Value} {base mb m i : Nat} (h : PalRel w cs vc base mb m i s7 wr) (hc : ∀ c, cs[i]? = some c → c.a < 32768) : PalRel w cs vc base mb (m + 1) (i + 1) s7 wr := by
  obtain ⟨cnt, met, all, h1, h2, h3, h4, h5, h6, h7⟩ := h.ex
  refine ⟨h.src, ⟨cnt, met, all, h1, h2, by omega, by omega, h5, h6, ?_⟩, h.below, h.size⟩
  rintro ⟨j, hj, c, hcj, hca⟩
  rcases Nat.lt_or_ge j i with h | h
  · exact h7 ⟨j, h, c, hcj, hca⟩
  · obtain rfl : j = i := by omega
    exact absurd (hc c hcj) (Int.not_lt.2 hca)
set_option maxRecDepth 100000 in
set_option maxHeartbeats 3200000 in
theorem palette_any (W H : Int) (p : Option Addr) (n cap : Nat) (l : List Int) (w : World) (h : Sl .u16 w p n cap l) (hg : imgGood W H n) (N : Nat) (hN : n = 4 * N) (most : Nat) (hm1 : 1 ≤ most) (hm2 : most ≤ 256) :
    Calls Tryz.prog 17 #[.agg #[.int .i64 W, .int .i64 H, .slice p n cap], .int .i64 (most : Nat)] w (PalPost l N most w) := by
  have hsides := sides_mul hg.1 hg.2.1 hg.2.2.1 hg.2.2.2.1
  have hNW : (N : Int) = W * H := by have := hg.2.2.2.2.2; omega
  have hN6 : N ≤ 65536 := by have := hg.2.2.2.2.1; omega
  have HS := Lib.hid h
  have HG := Lib.hid hg
  have HNN := Lib.hid hN
  have CGd := Lib.hid (fun w => good_any W H p n cap w)
  rw [goodB_true hg] at CGd
  have q0 := heap_alloc_new w (.cells #[.int .i64 W, .int .i64 H, .slice p n cap] 24 (0, 0))
  have B0 := Lib.hid ((Below.refl w.heap.size w).alloc (Nat.le_refl _) (.cells #[.int .i64 W, .int .i64 H, .slice p n cap] 24))
  have KB := Lib.hid q0
  clear h hg hN hNW q0 hsides
  go_enter Tryz.func17, Tryz.ntmps17
  go_upto_region 1 with (fail)
  obtain ⟨ib, hib⟩ : ∃ ib, w.heap.size = ib := ⟨_, rfl⟩
  rw [hib] at B0 KB ⊢
  have HIB := Lib.hid hib
  clear hib
  generalize w.alloc (.cells #[.int .i64 W, .int .i64 H, .slice p n cap] 24) = w0 at *
  have c0 := (cell_of_row w0 _ 0 _ _ (0, 0) KB.out).trans (show _ = some (Value.int .i64 W) from rfl)
  have c1 := (cell_of_row w0 _ 1 _ _ (0, 0) KB.out).trans (show _ = some (Value.int .i64 H) from rfl)
  have c2 := (cell_of_row w0 _ 2 _ _ (0, 0) KB.out).trans (show _ = some (Value.slice p n cap) from rfl)
  go_wp2_with fail
  refine (CGd.out w0).mono ?_
  rintro e w1 ⟨rfl, hb1⟩
  have d0 := keep_cell hb1 c0
  have d1 := keep_cell hb1 c1
  have d2 := keep_cell hb1 c2
  have HB1 := Lib.hid (B0.out.trans (hb1.mono (by have := block_lt KB.out; omega)))
  have hmm := @run_makeMap Tryz.prog
  have hib1 : ib ≤ w1.heap.size := by have h1 := HB1.out.size; have h2 := HIB.out; omega
  clear c0 c1 c2 hb1 CGd
  have p3 : decide ((most : Int) < 1) = false := by simp; omega
  have p4 : decide ((256 : Int) < (most : Int)) = false := by simp; omega
  go_upto_region 7 with (fail)
  have q2 := heap_alloc_new w1 (.map #[] 0)
  have hB2 : Below w1.heap.size w1 (w1.alloc (.map #[] 0)) := (Below.refl _ _).alloc (Nat.le_refl _) _
  obtain ⟨mb, hmb⟩ : ∃ mb, w1.heap.size = mb := ⟨_, rfl⟩
  have HMB := Lib.hid hmb
  have HBw2 := Lib.hid (HB1.out.trans (hB2.mono hib1))
  have e0 := keep_cell hB2 d0
  have e1 := keep_cell hB2 d1
  have e2 := keep_cell hB2 d2
  rw [hmb] at q2 ⊢
  generalize w1.alloc (.map #[] 0) = w2 at *
  have Q2 := Lib.hid q2
  clear d0 d1 d2 hmm p3 p4 q2 hB2 hmb
  have hw2 : Below w.heap.size w w2 := HIB.out ▸ HBw2.out
  have CD := Lib.hid (distinct_any W H p n cap l w2 (HS.out.below hw2) HG.out N HNN.out)
  have HW2 := Lib.hid hw2
  clear hw2
  go_wp2_with fail
  refine CD.out.mono ?_
  rintro e w3 ⟨vc, cs, rfl, hoc, hnd, hme, hb3⟩
  obtain ⟨ca, cc, rfl, hcc1, hcc2, _, _⟩ := hoc.rd
  have HBw3 := Lib.hid (HW2.out.trans (hb3.mono HW2.out.size))
  have HME := Lib.hid hme
  have Q3 := Lib.hid ((hb3.block _ (block_lt Q2.out)).trans Q2.out)
  have hcN : cs.length ≤ N := by
    have := nodup_le cs (cols l N) hnd (fun x hx => cols_mem.2 ((hme x).1 hx))
    simpa [cols] using this
  obtain ⟨m, hm⟩ : ∃ m, cs.length = m := ⟨_, rfl⟩
  rw [hm] at hcc1 hcN ⊢
  have HM := Lib.hid hm
  have HOC : Hid (OwnC w.heap.size w3 (.slice ca m cc) cs) := Lib.hid (by rw [← hm]; exact World.ownsRow.mono hoc HW2.out.size)
  clear hoc hnd hme hb3 CD e0 e1 e2 hm
  go_wp2_with fail
  go_loopg [7, 31] m (fun gk s7 s31 wr => ∃ i, i ≤ m ∧ gk = m - i ∧ s31 = .int .i64 (i : Nat) ∧ PalRel w cs (.slice ca m cc) w3.heap.size mb i i s7 wr)
  case atStart =>
    refine ⟨0, Nat.zero_le _, rfl, by go_num, HOC.out, ⟨0, [], [], World.ownsRow_nil _ _ _ _, setC_none Q3.out, Nat.le_refl _, Nat.le_refl _, fun c hc => by simp at hc, fun c hc => by simp at hc, ?_⟩, HBw3.out, Nat.le_refl _⟩
    rintro ⟨j, hj, _⟩
    omega
  case round =>
    obtain ⟨i, hi, hgk, rfl, hrel⟩ := hrel
    have Hg := Lib.hid hgk
    have HR := Lib.hid hrel
    clear hgk hrel
    by_cases hlt : i < m
    · obtain ⟨c, hc⟩ : ∃ c, cs[i]? = some c := ⟨_, List.getElem?_eq_getElem (by rw [HM.out]; exact hlt)⟩
      have HCI := Lib.hid hc
      obtain ⟨a', c', ee, _, _, hrd, _⟩ := HR.out.src.rd
      injection ee with e1 e2 e3
      subst e1
      subst e3
      clear e2
      rcases hrd with h0 | ⟨cb, co, rfl, hcell⟩
      · rw [h0] at hc; simp at hc
      obtain ⟨k0, k1, k2, k3⟩ := hcell i (by rw [HM.out]; exact hlt)
      have hgd : cs.getD i C4.zero = c := by rw [List.getD_eq_getElem?_getD, hc]; rfl
      have hcok : c.ok := by
        obtain ⟨k, hk, rfl⟩ := (HME.out c).1 (List.mem_of_getElem? hc)
        exact (HS.out.u16s).pix k
      rw [hgd] at k0 k1 k2 k3
      have hi1 : (i : Int) < (m : Int) := by omega
      have CCl := Lib.hid (fun w => clear_any c w)
      clear hcell hgd hc
      go_upto_region 10 with (fail)
      have hnw := heap_alloc_new wr (.cells #[.int .u16 c.r, .int .u16 c.g, .int .u16 c.b, .int .u16 c.a] 38)
      have hB1 : Below wr.heap.size wr (wr.alloc (.cells #[.int .u16 c.r, .int .u16 c.g, .int .u16 c.b, .int .u16 c.a] 38)) := (Below.refl _ _).alloc (Nat.le_refl _) _
      obtain ⟨qb, hqb⟩ : ∃ b, wr.heap.size = b := ⟨_, rfl⟩
      have HQB := Lib.hid hqb
      have HC1 := Lib.hid hB1
      rw [hqb] at hnw ⊢
      generalize wr.alloc (.cells #[.int .u16 c.r, .int .u16 c.g, .int .u16 c.b, .int .u16 c.a] 38) = wa at *
      have HNW := Lib.hid hnw
      have n0 := (cell_of_row wa _ 0 _ _ (0, 0) HNW.out).trans (show _ = some (Value.int .u16 c.r) from rfl)
      have n1 := (cell_of_row wa _ 1 _ _ (0, 0) HNW.out).trans (show _ = some (Value.int .u16 c.g) from rfl)
      have n2 := (cell_of_row wa _ 2 _ _ (0, 0) HNW.out).trans (show _ = some (Value.int .u16 c.b) from rfl)
      have n3 := (cell_of_row wa _ 3 _ _ (0, 0) HNW.out).trans (show _ = some (Value.int .u16 c.a) from rfl)
      clear k0 k1 k2 k3 hnw hB1 hqb
      go_wp2_with fail
      refine (CCl.out wa).mono ?_
      rintro e w4 ⟨rfl, hb4⟩
      have HC4 := Lib.hid (HC1.out.trans (hb4.mono HC1.out.size))
      have HR4 := Lib.hid (HR.out.at_below HC4.out)
      have HN4 := Lib.hid ((hb4.block _ (block_lt HNW.out)).trans HNW.out)
      have hq4 : qb < w4.heap.size := block_lt HN4.out
      clear n0 n1 n2 n3 hb4 CCl HNW HC1
      by_cases hcl : c.a < 32768
      · have hd1 : decide (c.a < 32768) = true := decide_eq_true hcl
        have HCL := Lib.hid hcl
        rw [hd1]
        clear hd1 hcl
        go_wp2_with fail
        go_roundg (m - (i + 1))
        case measure => have := Hg.out; omega
        case rel =>
          refine ⟨i + 1, by omega, rfl, by go_num, HR4.out.next fun c' hc' => ?_⟩
          rw [HCI.out] at hc'
          cases hc'
          exact HCL.out
      · have hd1 : decide (c.a < 32768) = false := decide_eq_false hcl
        have HCL := Lib.hid hcl
        rw [hd1]
        clear hd1 hcl
        have n0 := (cell_of_row w4 _ 0 _ _ (0, 0) HN4.out).trans (show _ = some (Value.int .u16 c.r) from rfl)
        have n1 := (cell_of_row w4 _ 1 _ _ (0, 0) HN4.out).trans (show _ = some (Value.int .u16 c.g) from rfl)
        have n2 := (cell_of_row w4 _ 2 _ _ (0, 0) HN4.out).trans (show _ = some (Value.int .u16 c.b) from rfl)
        have n3 := (cell_of_row w4 _ 3 _ _ (0, 0) HN4.out).trans (show _ = some (Value.int .u16 c.a) from rfl)
        have CE := Lib.hid (eight_any c hcok w4)
        go_wp2_with fail
        refine CE.out.mono ?_
        rintro e w5 ⟨rfl, hb5⟩
        have HC5 := Lib.hid (HC4.out.trans (hb5.mono HC4.out.size))
        have HN5 := Lib.hid ((hb5.block _ (block_lt HN4.out)).trans HN4.out)
        have h8 : Hid (c.eight.is8) := Lib.hid (C4.eight_is8 hcok)
        obtain ⟨ce, hce⟩ : ∃ x, c.eight = x := ⟨_, rfl⟩
        rw [hce] at h8 ⊢
        clear n0 n1 n2 n3 hb5 CE HN4 HR4 HC4 hce
        go_upto_region 12 with (refine wpList_store_row rfl 38 _ _ rfl qb #[.int .u16 ce.r, .int .u16 ce.g, .int .u16 ce.b, .int .u16 ce.a] rfl rfl 38 _ HN5.out (colSize4 _ _ _ _) rfl (colOne _ _ _ _) ?_)
        have hC6 : Below wr.heap.size wr (w5.setRow qb #[.int .u16 ce.r, .int .u16 ce.g, .int .u16 ce.b, .int .u16 ce.a]) := below_setRow HC5.out (Nat.le_of_eq HQB.out) _
        have hn6 := setRow_heap w5 qb _ #[.int .u16 ce.r, .int .u16 ce.g, .int .u16 ce.b, .int .u16 ce.a] _ _ HN5.out
        generalize w5.setRow qb #[.int .u16 ce.r, .int .u16 ce.g, .int .u16 ce.b, .int .u16 ce.a] = w6 at *
        have HR6 := Lib.hid (HR.out.at_below hC6)
        have HN6 := Lib.hid hn6
        have hceok := h8.out.ok
        clear hC6 hn6 HC5 HN5 hq4
        obtain ⟨cnt, met, all, hoa, hset, hcnt, hal, ha8, hma, hne⟩ := HR6.out.ex
        obtain ⟨D, hmap, hD⟩ := hset
        have hhas := hD ce hceok
        have hkey := keyOf_col ce hceok
        have HOA := Lib.hid hoa
        have HMAP := Lib.hid hmap
        have HDD := Lib.hid hD
        have HCNT := Lib.hid hcnt
        have HAL := Lib.hid hal
        have HA8 := Lib.hid ha8
        have HMA := Lib.hid hma
        have HNE := Lib.hid hne
        have HHAS := Lib.hid hhas
        have hz := zeroUnit
        clear hoa hmap hD hcnt hal ha8 hma hne hhas
        have n0 := (cell_of_row w6 _ 0 _ _ (0, 0) HN6.out).trans (show _ = some (Value.int .u16 ce.r) from rfl)
        have n1 := (cell_of_row w6 _ 1 _ _ (0, 0) HN6.out).trans (show _ = some (Value.int .u16 ce.g) from rfl)
        have n2 := (cell_of_row w6 _ 2 _ _ (0, 0) HN6.out).trans (show _ = some (Value.int .u16 ce.b) from rfl)
        have n3 := (cell_of_row w6 _ 3 _ _ (0, 0) HN6.out).trans (show _ = some (Value.int .u16 ce.a) from rfl)
        go_upto_region 13 with (at_lookup; go_must (refine wpList_lookup_own_unit _ rfl _ _ 67 rfl 38 57 law_col Tryz.underlying67 (zeroUnit _) mb cnt D rfl HMAP.out _ _ rfl hkey ?_))
        rw [HHAS.out]
        have B7 := Lib.hid ((Below.refl w6.heap.size w6).alloc (Nat.le_refl _) (.cells #[] 57))
        clear n0 n1 n2 n3 hz
        generalize w6.alloc (.cells #[] 57) = w7 at *
        have HR7 := Lib.hid (HR6.out.at_below B7.out)
        have HO7 := Lib.hid (HOA.out.below B7.out)
        have HN7 := Lib.hid ((B7.out.block _ (block_lt HN6.out)).trans HN6.out)
        have hm7 : w7.ownsMap Tryz.prog 38 (unitElem (H := Unit)) mb cnt D := by
          obtain ⟨es, ck, h1, h2⟩ := HMAP.out
          exact ⟨es, ck, (B7.out.block _ (block_lt h1)).trans h1, h2⟩
        clear HR6 HOA HN6 HMAP
        by_cases hin : ce ∈ met
        · rw [decide_eq_true hin]
          have HIN := Lib.hid hin
          have HM7 := Lib.hid hm7
          clear hin hm7
          go_wp2_with fail
          go_roundg (m - (i + 1))
          case measure => have := Hg.out; omega
          case rel =>
            refine ⟨i + 1, by omega, rfl, by go_num, HR7.out.src, ⟨cnt, met, all, HO7.out, ⟨D, HM7.out, HDD.out⟩, Nat.le_succ_of_le HCNT.out, Nat.le_succ_of_le HAL.out, HA8.out, HMA.out, fun _ e => ?_⟩, HR7.out.below, HR7.out.size⟩
            have := HMA.out ce HIN.out
            rw [e] at this
            simp at this
        · rw [decide_eq_false hin]
          have hcm : cnt < maxLen := by have := HCNT.out; unfold maxLen; omega
          have r0 := (cell_of_row w7 _ 0 _ _ (0, 0) HN7.out).trans (show _ = some (Value.int .u16 ce.r) from rfl)
          have r1 := (cell_of_row w7 _ 1 _ _ (0, 0) HN7.out).trans (show _ = some (Value.int .u16 ce.g) from rfl)
          have r2 := (cell_of_row w7 _ 2 _ _ (0, 0) HN7.out).trans (show _ = some (Value.int .u16 ce.b) from rfl)
          have r3 := (cell_of_row w7 _ 3 _ _ (0, 0) HN7.out).trans (show _ = some (Value.int .u16 ce.a) from rfl)
          obtain ⟨es7, ck7, hb7, hrest7⟩ := hm7
          have HB7M := Lib.hid hb7
          have hm7 : w7.ownsMap Tryz.prog 38 (unitElem (H := Unit)) mb cnt D := ⟨es7, ck7, hb7, hrest7⟩
          have HIS := Lib.hid (show IsMap D by obtain ⟨es, ck, _, _, _, e⟩ := hm7; exact ⟨_, e⟩)
          have hcb3 : cb < w3.heap.size := (World.ownsRow.lt HOC.out cb rfl).2
          clear hb7 hrest7 hin
          go_upto_region 15 with (at_mapUpdate; go_must (refine wpList_mapUpdate_own _ rfl _ _ _ 67 rfl 38 57 law_col Tryz.underlying67 _ mb cnt _ rfl hm7 hcm _ _ _ rfl rfl hkey _ [] unitElem_mk ?_; intro w8 hm8 hg8; have HM8 := Lib.hid hm8; have HG8 := Lib.hid hg8; clear hm8 hg8))
          have nmb : ∀ {j : Nat} {a : Array Value} {t : TypeId}, w7.heap[j]? = some (.cells a t (0, 0)) → w8.heap[j]? = some (.cells a t (0, 0)) := by
            intro j a t h1
            refine (HG8.out.block j (block_lt h1) ?_).trans h1
            intro e
            exact map_apart HB7M.out h1 (Option.some.inj e).symm
          have HN8 := Lib.hid (nmb HN7.out)
          have ho8 : OwnC w3.heap.size w8 u7 all := World.ownsRow.kept HO7.out HG8.out (.inr (Ne.symm (own_not_loop HO7.out HB7M.out rfl)))
          have hs8 : OwnC w.heap.size w8 (.slice (some ⟨cb, co, none⟩) m cc) cs := World.ownsRow.kept HR7.out.src HG8.out (.inr (Ne.symm (own_not_loop HR7.out.src HB7M.out rfl)))
          have hb8 : Below w.heap.size w w8 := HR7.out.below.grown HG8.out HR7.out.below.size (fun j e => by cases e; have h1 := HMB.out; have h2 := HB1.out.size; omega)
          have hz8 : w3.heap.size ≤ w8.heap.size := Nat.le_trans HR7.out.size HG8.out.size
          have hnm : some mb ≠ u7.ownBlock := own_not_loop HO7.out HB7M.out rfl
          have hB9 : Below w8.heap.size w8 (w8.alloc (.cells #[.int .u16 ce.r, .int .u16 ce.g, .int .u16 ce.b, .int .u16 ce.a] 38)) := (Below.refl _ _).alloc (Nat.le_refl _) _
          have HB9 := Lib.hid hB9
          have HGN := Lib.hid (heap_alloc_new w8 (.cells #[.int .u16 ce.r, .int .u16 ce.g, .int .u16 ce.b, .int .u16 ce.a] 38))
          have HO9 := Lib.hid (ho8.below hB9)
          have HS9 := Lib.hid (hs8.below hB9)
          have HBw9 := Lib.hid (hb8.trans (hB9.mono hb8.size))
          have HZ9 : Hid (w3.heap.size ≤ (w8.alloc (.cells #[.int .u16 ce.r, .int .u16 ce.g, .int .u16 ce.b, .int .u16 ce.a] 38)).heap.size) := Lib.hid (Nat.le_trans hz8 hB9.size)
          have hm9 : (w8.alloc (.cells #[.int .u16 ce.r, .int .u16 ce.g, .int .u16 ce.b, .int .u16 ce.a] 38)).ownsMap Tryz.prog 38 (unitElem (H := Unit)) mb (cnt + 1) (D.put ce.key (.agg [])) := by
            obtain ⟨es, ck, h1, h2⟩ := HM8.out
            exact ⟨es, ck, (hB9.block _ (block_lt h1)).trans h1, h2⟩
          have HM9 := Lib.hid hm9
          have HNM := Lib.hid hnm
          clear r0 r1 r2 r3 nmb ho8 hs8 hb8 hz8 hnm hB9 hm9 hm7 HN7 HO7 HR7 HM8
          have r0 := (cell_of_row w8 _ 0 _ _ (0, 0) HN8.out).trans (show _ = some (Value.int .u16 ce.r) from rfl)
          have r1 := (cell_of_row w8 _ 1 _ _ (0, 0) HN8.out).trans (show _ = some (Value.int .u16 ce.g) from rfl)
          have r2 := (cell_of_row w8 _ 2 _ _ (0, 0) HN8.out).trans (show _ = some (Value.int .u16 ce.b) from rfl)
          have r3 := (cell_of_row w8 _ 3 _ _ (0, 0) HN8.out).trans (show _ = some (Value.int .u16 ce.a) from rfl)
          have hal6 : all.length ≤ 65536 := by have := HAL.out; omega
          go_wp2_with (at_builtin; go_must (refine wpList_of_append rfl (.tmp 50) (.tmp 52) 34 34 rfl (run_append_col _ _ w3.heap.size u7 all ce HO9.out (by omega) HZ9.out w8.heap.size HGN.out) ?_; rintro v9 w9 ⟨ho9, hg9, hv9⟩; have HOA := Lib.hid ho9; have HGA := Lib.hid hg9; clear ho9 hg9 hv9))
          go_roundg (m - (i + 1))
          case measure => have := Hg.out; omega
          case rel =>
            have hlt9 := World.ownsRow.lt HO9.out
            have hmb3 : mb < w3.heap.size := block_lt Q3.out
            have hm10 : w9.ownsMap Tryz.prog 38 (unitElem (H := Unit)) mb (cnt + 1) (D.put ce.key (.agg [])) := by
              obtain ⟨es, ck, h1, h2⟩ := HM9.out
              exact ⟨es, ck, grown_block HGA.out h1 HNM.out, h2⟩
            refine ⟨i + 1, by omega, rfl, by go_num, World.ownsRow.kept HS9.out HGA.out (.inr fun e => ?_), ⟨cnt + 1, met ++ [ce], all ++ [ce], HOA.out, setC_put hceok HDD.out HIS.out _ hm10, by have := HCNT.out; omega, by have := HAL.out; simp; omega, ?_, ?_, fun _ e => by simp at e⟩, HBw9.out.grown HGA.out HBw9.out.size (fun j e => Nat.le_trans HBw3.out.size (hlt9 j e).1), Nat.le_trans HZ9.out HGA.out.size⟩
            · have e' : some cb = u7.ownBlock := e
              have := (hlt9 cb e'.symm).1
              omega
            · intro x hx
              rcases List.mem_append.1 hx with h | h
              · exact HA8.out x h
              · rw [List.mem_singleton.1 h]; exact h8.out
            · intro x hx
              rcases List.mem_append.1 hx with h | h
              · exact List.mem_append_left _ (HMA.out x h)
              · exact List.mem_append_right _ h
    · obtain rfl : i = m := by omega
      obtain ⟨cnt, met, all, hoa, _, _, hal, ha8, _, hne⟩ := HR.out.ex
      have hne' : (∃ k, k < N ∧ 32768 ≤ (pix l k).a) → all ≠ [] := by
        rintro ⟨k, hk, ha⟩
        obtain ⟨j, hj⟩ := List.mem_iff_getElem?.1 ((HME.out (pix l k)).2 ⟨k, hk, rfl⟩)
        exact hne ⟨j, by have := (List.getElem?_eq_some_iff.1 hj).1; rw [HM.out] at this; exact this, _, hj, ha⟩
      obtain ⟨aa, ac, rfl, hac1, hac2, _, hnil⟩ := hoa.rd
      obtain ⟨L, hL⟩ : ∃ L, all.length = L := ⟨_, rfl⟩
      have HL := Lib.hid hL
      have HNE := Lib.hid hne'
      have HOA := Lib.hid hoa
      have HA8 := Lib.hid ha8
      have HBW := Lib.hid HR.out.below
      have HSZ := Lib.hid HR.out.size
      rw [hL] at hac1 hal ⊢
      clear hoa hne hne' ha8 hL HR
      by_cases hfew : L ≤ most
      · have hfi : (L : Int) ≤ (most : Int) := by omega
        go_wp2_with fail
        go_ret2
        refine ⟨_, all, rfl, ?_, HA8.out, by rw [HL.out]; exact hfew, HNE.out, HBW.out⟩
        rw [← HL.out]
        exact World.ownsRow.mono HOA.out HBw3.out.size
      · have hfi : ¬ (L : Int) ≤ (most : Int) := by omega
        go_upto_region 20 with (fail)
        obtain ⟨ag, ac', e, _⟩ := own_form HOA.out (by have := HL.out; omega)
        injection e with e1 e2 e3
        subst e1
        subst e3
        clear e2
        have hpa := OwnC.part HOA.out
        rw [HL.out] at hpa
        have hnw := heap_alloc_new wr (.cells #[.slice none 0 0, .func (.func 51) #[] #[]] 116)
        have hB1 : Below wr.heap.size wr (wr.alloc (.cells #[.slice none 0 0, .func (.func 51) #[] #[]] 116)) := (Below.refl _ _).alloc (Nat.le_refl _) _
        have hp1 := hpa.below hB1
        have hbw1 := HBW.out.trans (hB1.mono HBW.out.size)
        have hs1 : wr.heap.size ≤ (wr.alloc (.cells #[.slice none 0 0, .func (.func 51) #[] #[]] 116)).heap.size := hB1.size
        have hbgw : w.heap.size ≤ wr.heap.size := HBW.out.size
        obtain ⟨bg, hbg⟩ : ∃ b, wr.heap.size = b := ⟨_, rfl⟩
        rw [hbg] at hnw hs1 hbgw ⊢
        generalize wr.alloc (.cells #[.slice none 0 0, .func (.func 51) #[] #[]] 116) = w1 at *
        have hba : BagAt bg w1 bg (.slice none 0 0) [] := ⟨Nat.le_refl _, hnw, World.ownsRow_nil _ _ _ _, fun p hp => by simp at hp⟩
        have CP := Lib.hid (bagPut_any bg bg _ [] _ L ac all w1 hba hp1 (by simp) hs1)
        have HBW1 := Lib.hid hbw1
        have hHA8 := HA8.out
        clear hpa hnw hB1 hp1 hbw1 hs1 hbg hba
        go_wp2_with fail
        refine CP.out.mono ?_
        rintro e w2 ⟨rfl, v2, hba2, hk2⟩
        have HBA2 := Lib.hid hba2
        have HBW2 := Lib.hid (hk2.below HBW1.out hbgw)
        have HSZ2 : Hid (bg ≤ w2.heap.size) := Lib.hid (by have := block_lt hba2.head; omega)
        clear hba2 hk2 CP
        go_wp2_with fail
        go_loopg [] (most - 1) (fun gk wr => BagRel w bg L most gk wr)
        case atStart =>
          refine ⟨v2, [((some ⟨ag, 0, none⟩, L, ac), all)], rfl, HBA2.out, Nat.le_refl _, hm1, fun p hp => ?_, ?_, HBW2.out, HSZ2.out⟩
          · rw [List.mem_singleton.1 hp]
            refine ⟨fun e => ?_, HA8.out⟩
            have := HL.out
            dsimp only at e
            rw [e] at this
            simp at this
            omega
          · rw [sumLen_one, HL.out]
        case round =>
          obtain ⟨v, xs, hgk, hba, hx1, hx2, hgb, hsum, hbw, hsz⟩ := hrel
          obtain ⟨ig, ic, rfl, hic⟩ := own_form hba.row (by omega)
          obtain ⟨n', hn'⟩ : ∃ m, xs.length = m := ⟨_, rfl⟩
          have hi0 := (cell_of_row _ _ 0 _ _ (0, 0) hba.head).trans (show _ = some (Value.slice (some ⟨ig, 0, none⟩) xs.length ic) from rfl)
          have Hgk := Lib.hid hgk
          have HBA := Lib.hid hba
          have HGB := Lib.hid hgb
          have HSUM := Lib.hid hsum
          have HBW3 := Lib.hid hbw
          have HSZ3 := Lib.hid hsz
          have HN' := Lib.hid hn'
          have CT := Lib.hid (bagTake_any bg bg _ xs _ hba (by omega) hx1)
          rw [hn'] at hi0 hx1 hx2 hic
          clear hgk hba hgb hsum hbw hsz hn'
          by_cases hlt : n' < most
          · have hlt1 : (n' : Int) < (most : Int) := by omega
            go_wp2_with fail
            refine CT.out.mono ?_
            rintro e w4 ⟨ti, pp, v4, hpi, hmx, rfl, hba4, hk4⟩
            obtain ⟨pg, po, pc, hpe, hpc1, hpc2, hprd⟩ := ((HBA.out.each pp (List.mem_of_getElem? hpi)).bagKeep hk4).rd
            obtain ⟨tl, htl⟩ : ∃ t, pp.2 = t := ⟨_, rfl⟩
            have hse := sumLen_erase xs ti pp hpi
            have hlen2 : 2 ≤ tl.length := by
              rcases Nat.lt_or_ge pp.2.length 2 with h | h
              · exfalso
                have h1 := sumLen_small xs 1 (fun q hq => by have := hmx q hq; omega)
                have h2 := HSUM.out
                have h3 := HN'.out
                omega
              · rw [← htl]; exact h
            have htl8 : all8 tl := by rw [← htl]; exact (HGB.out pp (List.mem_of_getElem? hpi)).2
            have hgb4 : goodBoxes (xs.eraseIdx ti) := fun q hq => HGB.out q (List.mem_of_mem_eraseIdx hq)
            have hti : ti < xs.length := (List.getElem?_eq_some_iff.1 hpi).1
            have hel : (xs.eraseIdx ti).length = n' - 1 := by rw [List.length_eraseIdx_of_lt hti, HN'.out]
            rw [htl] at hpe hpc1 hprd hse
            rw [hpe]
            unfold Hd.val
            dsimp only
            obtain ⟨ys, hys⟩ : ∃ y, xs.eraseIdx ti = y := ⟨_, rfl⟩
            rw [hys] at hba4 hse hgb4 hel
            have hsy : sumLen ys + tl.length = L := hse.trans HSUM.out
            have HBA4 := Lib.hid hba4
            have HBW4 := Lib.hid (hk4.below HBW3.out hbgw)
            have HSZ4 := Lib.hid (Nat.le_trans HSZ3.out hk4.size)
            have HGB4 := Lib.hid hgb4
            have HSY := Lib.hid hsy
            have HEL := Lib.hid hel
            have HRD4 := Lib.hid hprd
            have HT8 := Lib.hid htl8
            clear hba4 hk4 hgb4 hsy hel hprd htl8 hse hys hti hpi hmx hpe htl CT hi0 hpc2
            have htlL : tl.length ≤ 65536 := by have h1 := HSY.out; omega
            obtain ⟨tn, htn⟩ : ∃ m, tl.length = m := ⟨_, rfl⟩
            rw [htn] at hlen2 hpc1 htlL ⊢
            have HTN := Lib.hid htn
            clear htn
            have CL := Lib.hid (longest_any pg po tn pc tl w4 HRD4.out HTN.out (by omega) (by omega) hpc1 HT8.out.ok)
            go_wp2_with fail
            refine CL.out.mono ?_
            rintro e w5 ⟨k, hk3, rfl, hb5⟩
            have HB5 := Lib.hid hb5
            clear hb5 CL
            go_upto_region 24 with (fail)
            have hnk := heap_alloc_new w5 (.cells #[.int .i64 (k : Nat)] 3)
            have hB6 : Below w5.heap.size w5 (w5.alloc (.cells #[.int .i64 (k : Nat)] 3)) := (Below.refl _ _).alloc (Nat.le_refl _) _
            obtain ⟨kb, hkb⟩ : ∃ b, w5.heap.size = b := ⟨_, rfl⟩
            rw [hkb] at hnk ⊢
            have HB6 := Lib.hid (HB5.out.trans (hB6.mono HB5.out.size))
            generalize w5.alloc (.cells #[.int .i64 (k : Nat)] 3) = w6 at *
            have HKB := Lib.hid ((cell_of_row w6 _ 0 _ _ (0, 0) hnk).trans (show _ = some (Value.int .i64 (k : Nat)) from rfl))
            have hkb6 : kb < w6.heap.size := block_lt hnk
            have CC := cloneC_any pg po pc tl w6 (HRD4.out.below HB6.out) (by have := HTN.out; omega) (by have := HTN.out; omega)
            unfold CloneC at CC
            rw [HTN.out] at CC
            have HCC := Lib.hid CC
            clear hnk hB6 hkb CC
            go_wp2_with fail
            refine HCC.out.mono ?_
            rintro e w7 ⟨g7, c7, rfl, hg7, ho7, hb7⟩
            have hrow7 : RowC w6.heap.size w7 g7 c7 tl := by unfold RowC; rw [HTN.out]; exact ho7
            have CSt := sortStable_any w6.heap.size g7 c7 kb k tl w7 hrow7 ⟨keep_cell hb7 HKB.out, hk3, by omega⟩ HT8.out.ok (by have := HTN.out; omega)
            rw [HTN.out] at CSt
            have HCS := Lib.hid CSt
            have HB7 := Lib.hid (HB6.out.trans (hb7.mono HB6.out.size))
            have hw67 := hb7.size
            clear CSt hrow7 ho7 hb7 HCC
            go_wp2_with fail
            refine HCS.out.mono ?_
            rintro e w8 ⟨rfl, t8, hm8, hr8, hg8⟩
            have h64 : w4.heap.size ≤ w6.heap.size := HB6.out.size
            have hB48 : Below w4.heap.size w4 w8 := HB7.out.grown hg8 HB7.out.size (fun j e => by cases e; omega)
            have hlen8 : t8.length = tn := hm8.1.trans HTN.out
            have hc7 := hr8.block.2.choose_spec.2.2.1
            have hp8 := OwnC.part (show OwnC w6.heap.size w8 (.slice (some ⟨g7, 0, none⟩) t8.length c7) t8 from hr8)
            have ht8 : all8 t8 := fun c hc => HT8.out c (hm8.2 c hc)
            obtain ⟨hh, hhh⟩ : ∃ h, tn / 2 = h := ⟨_, rfl⟩
            have hdiv : ((tn : Int) / 2) = (hh : Int) := by omega
            have hpl := hp8.take hh (by omega)
            have hpr := hp8.drop hh (by omega)
            rw [hlen8] at hpr hc7
            have HBA8 := Lib.hid (HBA4.out.below hB48)
            have HBW8 := Lib.hid (HBW4.out.trans (hB48.mono HBW4.out.size))
            have HSZ8 : Hid (bg ≤ w8.heap.size) := Lib.hid (Nat.le_trans HSZ4.out hB48.size)
            have HPR := Lib.hid hpr
            have HT88 := Lib.hid ht8
            have HL8 := Lib.hid hlen8
            have CP1 := Lib.hid (bagPut_any bg bg v4 ys _ hh c7 (t8.take hh) w8 HBA8.out hpl (by have := HEL.out; omega) HSZ8.out)
            clear hm8 hr8 hg8 hB48 hp8 hpl hpr ht8 hlen8 HCS HB7 HB6 HB5 HBA4 HKB hw67 hhh h64
            have hh1 : 1 ≤ hh := by omega
            have hh2 : hh < tn := by omega
            have hq1 : (hh : Int) ≤ (c7 : Int) := by omega
            have hq2 : (hh : Int) ≤ (tn : Int) := by omega
            have hq3 : ¬ c7 = hh := by omega
            have hq4 : (tn : Int) ≤ (c7 : Int) := by omega
            go_wp2_with fail
            refine CP1.out.mono ?_
            rintro e w9 ⟨rfl, v9, hba9, hk9⟩
            have hpr9 := HPR.out.bagKeep hk9
            rw [Nat.zero_add] at hpr9
            have HSZ9 : bg ≤ w9.heap.size := Nat.le_trans HSZ8.out hk9.size
            have HBW9 := Lib.hid (hk9.below HBW8.out hbgw)
            have CP2 := Lib.hid (bagPut_any bg bg v9 _ _ (tn - hh) (c7 - hh) (t8.drop hh) w9 hba9 hpr9 (by simp only [List.length_append, List.length_singleton]; have := HEL.out; omega) HSZ9)
            clear hba9 hk9 hpr9 CP1 HBA8 HPR
            go_wp2_with fail
            refine CP2.out.mono ?_
            rintro e w10 ⟨rfl, v10, hba10, hk10⟩
            have HBA10 := Lib.hid hba10
            have HBW10 := Lib.hid (hk10.below HBW9.out hbgw)
            have HSZ10 := Lib.hid (Nat.le_trans HSZ9 hk10.size)
            clear hba10 hk10 CP2
            go_wp2_with fail
            go_roundg (most - (n' + 1))
            case measure => have h1 := Hgk.out; have h2 := HN'.out; omega
            case rel =>
              refine ⟨v10, _, ?_, HBA10.out, ?_, ?_, fun q hq => ?_, ?_, HBW10.out, HSZ10.out⟩
              · simp only [List.length_append, List.length_singleton]
                have := HEL.out
                omega
              · simp only [List.length_append, List.length_singleton]
                omega
              · simp only [List.length_append, List.length_singleton]
                have := HEL.out
                omega
              · rcases List.mem_append.1 hq with h | h
                · rcases List.mem_append.1 h with h | h
                  · exact HGB4.out q h
                  · rw [List.mem_singleton.1 h]
                    refine ⟨fun e => ?_, fun c hc => HT88.out c (List.mem_of_mem_take hc)⟩
                    have := congrArg List.length e
                    rw [List.length_take, HL8.out] at this
                    simp at this
                    omega
                · rw [List.mem_singleton.1 h]
                  refine ⟨fun e => ?_, fun c hc => HT88.out c (List.mem_of_mem_drop hc)⟩
                  have := congrArg List.length e
                  rw [List.length_drop, HL8.out] at this
                  simp at this
                  omega
              · rw [sumLen_append, sumLen_append, sumLen_one, sumLen_one, ← HSY.out, List.length_take, List.length_drop, HL8.out, HTN.out]
                omega
          · obtain rfl : n' = most := by omega
            clear CT
            have hlt1 : ¬ ((n' : Int) < (n' : Int)) := by omega
            go_wp2_with fail
            generalize wr = wq at *
            go_loopg [15, 100] n' (fun gk s15 s100 wx => ∃ (i : Nat) (outs : List C4), i ≤ n' ∧ gk = n' - i ∧ s100 = .int .i64 (i : Nat) ∧ OwnC wq.heap.size wx s15 outs ∧ outs.length = i ∧ all8 outs ∧ Below wq.heap.size wq wx)
            case atStart => exact ⟨0, [], Nat.zero_le _, rfl, by go_num, World.ownsRow_nil _ _ _ _, rfl, fun c hc => by simp at hc, Below.refl _ _⟩
            case round =>
              obtain ⟨j, outs, hj, hgj, rfl, hoo, hol, ho8, hbx⟩ := hrel
              have HGJ := Lib.hid hgj
              have HOO := Lib.hid hoo
              have HOL := Lib.hid hol
              have HO8 := Lib.hid ho8
              have HBX := Lib.hid hbx
              clear hgj hoo hol ho8 hbx
              by_cases hjl : j < n'
              · obtain ⟨pp, hpp⟩ : ∃ q, xs[j]? = some q := ⟨_, List.getElem?_eq_getElem (by rw [HN'.out]; exact hjl)⟩
                have hpm := List.mem_of_getElem? hpp
                obtain ⟨pg, po, pc, hpe, hpc1, _, hprd⟩ := ((HBA.out.each pp hpm).below HBX.out).rd
                have hpx : (xs.map (·.1))[j]? = some pp.1 := by rw [List.getElem?_map, hpp]; rfl
                have hrow := ownsRow_below HBA.out.row HBX.out
                rw [HN'.out] at hrow
                have hcp := bag_cell hrow hpx
                obtain ⟨hne, h8p⟩ := HGB.out pp hpm
                obtain ⟨tl, htl⟩ : ∃ t, pp.2 = t := ⟨_, rfl⟩
                rw [htl] at hpe hpc1 hprd hne h8p
                rw [hpe] at hcp
                unfold Hd.val at hcp
                dsimp only at hcp
                have hlp : 0 < tl.length := List.length_pos_iff.2 hne
                have htL : tl.length ≤ L := by have := sumLen_erase xs j pp hpp; rw [htl, HSUM.out] at this; omega
                obtain ⟨tn, htn⟩ : ∃ m, tl.length = m := ⟨_, rfl⟩
                rcases hprd with h0 | ⟨_, _, ee, hcell⟩
                · exact absurd h0 hne
                cases ee
                obtain ⟨hh, hhh⟩ : ∃ h, tn / 2 = h := ⟨_, rfl⟩
                rw [htn] at hcell hcp hpc1 hlp htL
                obtain ⟨k0, k1, k2, k3⟩ := hcell hh (by omega)
                have hdiv : ((tn : Int) / 2) = (hh : Int) := by omega
                obtain ⟨c, hc⟩ : ∃ c, tl.getD hh C4.zero = c := ⟨_, rfl⟩
                have hc8 : c.is8 := by
                  rw [← hc, List.getD_eq_getElem?_getD, List.getElem?_eq_getElem (by omega)]
                  exact h8p _ (List.getElem_mem _)
                have HC8 := Lib.hid hc8
                rw [hc] at k0 k1 k2 k3
                have hj1 : (j : Int) < (n' : Int) := by omega
                have hh3 : (hh : Int) < (tn : Int) := by omega
                have hB9 : Below wr.heap.size wr (wr.alloc (.cells #[.int .u16 c.r, .int .u16 c.g, .int .u16 c.b, .int .u16 c.a] 38)) := (Below.refl _ _).alloc (Nat.le_refl _) _
                have HB9 := Lib.hid hB9
                have HGN := Lib.hid (heap_alloc_new wr (.cells #[.int .u16 c.r, .int .u16 c.g, .int .u16 c.b, .int .u16 c.a] 38))
                have HO9 := Lib.hid (HOO.out.below hB9)
                have HZ9 : Hid (wq.heap.size ≤ (wr.alloc (.cells #[.int .u16 c.r, .int .u16 c.g, .int .u16 c.b, .int .u16 c.a] 38)).heap.size) := Lib.hid (Nat.le_trans HBX.out.size hB9.size)
                have hol6 : outs.length ≤ 65536 := by have := HOL.out; omega
                clear hpp hpm hpe hpx hrow htl h8p hne hcell hc hc8 hhh hB9 htn
                go_wp2_with (at_builtin; go_must (refine wpList_of_append rfl (.tmp 104) (.tmp 111) 34 34 rfl (run_append_col _ _ wq.heap.size u15 outs c HO9.out (by omega) HZ9.out wr.heap.size HGN.out) ?_; rintro v9 w9 ⟨ho9, hg9, hv9⟩; have HOA' := Lib.hid ho9; have HGA' := Lib.hid hg9; clear ho9 hg9 hv9))
                go_roundg (n' - (j + 1))
                case measure => have := HGJ.out; omega
                case rel =>
                  refine ⟨j + 1, outs ++ [c], by omega, rfl, by go_num, HOA'.out, by simp [HOL.out], fun x hx => ?_, (HBX.out.trans (HB9.out.mono HBX.out.size)).grown HGA'.out (Nat.le_trans HBX.out.size HB9.out.size) (fun i e => (World.ownsRow.lt HO9.out i e).1)⟩
                  rcases List.mem_append.1 hx with h | h
                  · exact HO8.out x h
                  · rw [List.mem_singleton.1 h]; exact HC8.out
              · obtain rfl : j = n' := by omega
                go_wp2_with fail
                go_ret2
                refine ⟨_, outs, rfl, World.ownsRow.mono HOO.out HBW3.out.size, HO8.out, by rw [HOL.out]; exact Nat.le_refl _, fun _ e => ?_, HBW3.out.trans (HBX.out.mono HBW3.out.size)⟩
                have := HOL.out
                rw [e] at this
                simp at this
                omega
end Go.Proofs.YtioeifbobhdccaaGreatDoor
