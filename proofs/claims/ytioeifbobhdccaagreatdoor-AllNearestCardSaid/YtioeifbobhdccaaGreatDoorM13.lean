/- raster.Distinct: the colours of an image. -/
import Derived.Test.YtioeifbobhdccaaGreatDoorM12
import Derived.Laws.StructEq
namespace Go.Proofs.YtioeifbobhdccaaGreatDoor
open Go.RowKit Go.Sort Go.Maps

theorem Sl.u16s {w : World} {a : Option Addr} {n cap : Nat} {l : List Int} (h : Sl .u16 w a n cap l) : u16s l := by
  intro x hx
  have := h.wf x hx
  simp [Lit.wf, IntKind.min, IntKind.max, IntKind.bits, IntKind.signed] at this
  omega
theorem pix_drop (l : List Int) (k : Nat) : (⟨(l.drop (4 * k)).getD 0 0, (l.drop (4 * k)).getD 1 0, (l.drop (4 * k)).getD 2 0, (l.drop (4 * k)).getD 3 0⟩ : C4) = pix l k := by
  unfold pix
  simp [List.getD_eq_getElem?_getD, List.getElem?_drop]
theorem eqCol (c d : C4) (w : World) : (Op.equalIn 10000 38 (.agg #[.int .u16 c.r, .int .u16 c.g, .int .u16 c.b, .int .u16 c.a]) (.agg #[.int .u16 d.r, .int .u16 d.g, .int .u16 d.b, .int .u16 d.a])).run Tryz.prog w = .ok (decide (c = d)) w := by
  have u3 := Tryz.underlying36
  have a3 : ∀ w, (isAgg 36).run Tryz.prog w = .ok false w := by
    intro w
    unfold isAgg
    rw [Sem.run_bind, run_underlying Tryz.underlying36 w]
    rfl
  have z3 : ∀ w, (sizeOf 36).run Tryz.prog w = .ok 1 w := by
    intro w
    have h : (Tryz.prog.info? 36).map (·.size) = some 1 := by kernel_rfl
    cases hq : Tryz.prog.info? 36 with
    | none => rw [hq] at h; cases h
    | some i => rw [hq] at h; simp at h; simp [sizeOf, typeInfo, hq, h]
  have hS : Tryz.prog.underlying 38 = some (.struct (Tryz.prog.fieldsOf 38)) := by kernel_rfl
  have hp : Tryz.prog.stoodInHeld 38 = false := by kernel_rfl
  rw [show (10000 : Nat) = 9999 + 1 from rfl, run_equalIn_agg w 9999 38 _ _ hS hp]
  simp only [Program.fieldsOf, Tryz.underlying38]
  go_simp
  have e : (c = d) ↔ (c.r = d.r ∧ c.g = d.g ∧ c.b = d.b ∧ c.a = d.a) := ⟨by rintro rfl; exact ⟨rfl, rfl, rfl, rfl⟩, fun h => C4.eq h.1 h.2.1 h.2.2.1 h.2.2.2⟩
  by_cases h1 : c.r = d.r <;> by_cases h2 : c.g = d.g <;> by_cases h3 : c.b = d.b <;> by_cases h4 : c.a = d.a <;> simp [e, h1, h2, h3, h4]
theorem guardCol : Tryz.prog.eqGuardType Tryz.prog.depth 38 = false := by kernel_rfl
theorem zeroUnit (w : World) : (zeroValue 57).run Tryz.prog w = .ok (.agg #[]) w := by kernel_rfl
theorem heap_setRow_other (w : World) (b : Nat) (cs : Array Value) {j : Nat} (h : j ≠ b) : (w.setRow b cs).heap[j]? = w.heap[j]? := setRow_other w b j cs h
theorem map_apart {w : World} {mb j : Nat} {es : Array MapEntry} {clock : Nat} {a : Array Value} {t : TypeId} {z : Nat × Nat} (h : w.heap[mb]? = some (.map es clock)) (k : w.heap[j]? = some (.cells a t z)) : mb ≠ j := by
  intro e
  subst e
  rw [h] at k
  cases k
/-- between two rounds -/
def DistRel (w : World) (l : List Int) (N base ib lb mb : Nat) (W H : Int) (p : Option Addr) (n cap : Nat) (gk : Nat) (s4 s20 : Value) (wr : World) : Prop :=
  ∃ (i cnt : Nat) (cs : List C4) (lc : C4), i ≤ N ∧ gk = N - i ∧ s20 = .int .i64 (i : Nat) ∧ OwnC base wr s4 cs ∧ SetC wr mb cnt cs ∧ cnt ≤ i ∧ cs.length ≤ i ∧ cs.Nodup ∧ (∀ c, c ∈ cs ↔ ∃ k, k < i ∧ pix l k = c) ∧
    wr.heap[lb]? = some (.cells #[.int .u16 lc.r, .int .u16 lc.g, .int .u16 lc.b, .int .u16 lc.a] 38 (0, 0)) ∧ (0 < i → lc = pix l (i - 1)) ∧
    wr.heap[ib]? = some (.cells #[.int .i64 W, .int .i64 H, .slice p n cap] 24 (0, 0)) ∧ Below w.heap.size w wr ∧ base ≤ wr.heap.size
def DistPost (l : List Int) (N : Nat) (w : World) (e : Ending) (w' : World) : Prop :=
  ∃ v cs, e = .returned v ∧ OwnC w.heap.size w' v cs ∧ cs.Nodup ∧ (∀ c, c ∈ cs ↔ ∃ k, k < N ∧ pix l k = c) ∧ Below w.heap.size w w'
set_option maxRecDepth 100000 in
set_option maxHeartbeats 1600000 in
theorem distinct_any (W H : Int) (p : Option Addr) (n cap : Nat) (l : List Int) (w : World) (h : Sl .u16 w p n cap l) (hg : imgGood W H n) (N : Nat) (hN : n = 4 * N) :
    Calls Tryz.prog 9 #[.agg #[.int .i64 W, .int .i64 H, .slice p n cap]] w (DistPost l N w) := by
  have hsides := sides_mul hg.1 hg.2.1 hg.2.2.1 hg.2.2.2.1
  obtain ⟨g1, g2, g3, g4, g5, g6⟩ := hg
  have hNW : (N : Int) = W * H := by omega
  have hg' : imgGood W H n := ⟨g1, g2, g3, g4, g5, g6⟩
  have HS := Lib.hid h
  have HNN := Lib.hid hN
  have HNW := Lib.hid hNW
  obtain ⟨pb, po, rfl, _⟩ := h.cells (by omega)
  have CGd := Lib.hid (fun w => good_any W H (some ⟨pb, po, none⟩) n cap w)
  rw [goodB_true hg'] at CGd
  have q0 := heap_alloc_new w (.cells #[.int .i64 W, .int .i64 H, .slice (some ⟨pb, po, none⟩) n cap] 24 (0, 0))
  have B0 := Lib.hid ((Below.refl w.heap.size w).alloc (Nat.le_refl _) (.cells #[.int .i64 W, .int .i64 H, .slice (some ⟨pb, po, none⟩) n cap] 24))
  have KB := Lib.hid q0
  clear h hN hNW q0 hg' g6
  go_enter Tryz.func9, Tryz.ntmps9
  go_upto_region 1 with (fail)
  obtain ⟨ib, hib⟩ : ∃ ib, w.heap.size = ib := ⟨_, rfl⟩
  rw [hib] at B0 KB ⊢
  have HIB := Lib.hid hib
  clear hib
  generalize w.alloc (.cells #[.int .i64 W, .int .i64 H, .slice (some ⟨pb, po, none⟩) n cap] 24) = w0 at *
  have c0 := (cell_of_row w0 _ 0 _ _ (0, 0) KB.out).trans (show _ = some (Value.int .i64 W) from rfl)
  have c1 := (cell_of_row w0 _ 1 _ _ (0, 0) KB.out).trans (show _ = some (Value.int .i64 H) from rfl)
  have c2 := (cell_of_row w0 _ 2 _ _ (0, 0) KB.out).trans (show _ = some (Value.slice (some ⟨pb, po, none⟩) n cap) from rfl)
  go_wp2_with fail
  refine (CGd.out w0).mono ?_
  rintro e w1 ⟨rfl, hb1⟩
  have d0 := keep_cell hb1 c0
  have d1 := keep_cell hb1 c1
  have HB1 := Lib.hid (B0.out.trans (hb1.mono (by have := block_lt KB.out; omega)))
  have KB1 := Lib.hid ((hb1.block _ (block_lt KB.out)).trans KB.out)
  have hmm := @run_makeMap Tryz.prog
  clear c0 c1 c2 hb1 CGd
  go_upto_region 6 with (fail)
  obtain ⟨q2, q3⟩ := heap2 w1 (.map #[] 0) (.cells #[.int .u16 0, .int .u16 0, .int .u16 0, .int .u16 0] 38)
  have B2 := Lib.hid (((Below.refl w1.heap.size w1).alloc (Nat.le_refl _) (.map #[] 0)).alloc (by simp) (.cells #[.int .u16 0, .int .u16 0, .int .u16 0, .int .u16 0] 38))
  have hs2 : ((w1.alloc (.map #[] 0)).alloc (.cells #[.int .u16 0, .int .u16 0, .int .u16 0, .int .u16 0] 38)).heap.size = w1.heap.size + 1 + 1 := by simp
  have HS2 := Lib.hid hs2
  have Q2 := Lib.hid q2
  have Q3 := Lib.hid q3
  clear q2 q3 hs2 hmm
  generalize (w1.alloc (.map #[] 0)).alloc (.cells #[.int .u16 0, .int .u16 0, .int .u16 0, .int .u16 0] 38) = w2 at *
  have KB2 := Lib.hid ((B2.out.block _ (block_lt KB1.out)).trans KB1.out)
  have e0 := keep_cell B2.out d0
  have e1 := keep_cell B2.out d1
  obtain ⟨mb, hmb⟩ : ∃ mb, w1.heap.size = mb := ⟨_, rfl⟩
  have hib1 : ib ≤ w1.heap.size := (by have h1 := HB1.out.size; have h2 := HIB.out; omega)
  rw [hmb] at Q2 Q3 HS2 B2 hib1 ⊢
  have HB2 := Lib.hid (HB1.out.trans (B2.out.mono hib1))
  have HMB := Lib.hid hmb
  clear d0 d1 hmb
  have hWH : IntKind.i64.wrap (W * H) = (N : Int) := by rw [← HNW.out]; exact IntWalk.i64_in _ (by have := HNW.out; omega)
  go_wp2_with fail
  clear e0 e1 hWH
  go_loopg [4, 20] N (fun gk s4 s20 wr => DistRel w l N w2.heap.size ib (mb + 1) mb W H (some ⟨pb, po, none⟩) n cap gk s4 s20 wr)
  case atStart =>
    refine ⟨0, 0, [], ⟨0, 0, 0, 0⟩, Nat.zero_le _, rfl, rfl, World.ownsRow_nil _ _ _ _, setC_none Q2.out, Nat.zero_le _, Nat.zero_le _, List.nodup_nil, by simp, Q3.out, by intro h; omega, KB2.out, ?_, Nat.le_refl _⟩
    rw [HIB.out]
    exact HB2.out
  case round =>
    obtain ⟨i, cnt, cs, lc, hi, hgk, rfl, hown, hset, hcnt, hcsl, hnd, hmem, hlb, hlc, himg, hbw, hbs⟩ := hrel
    have Hg := Lib.hid hgk
    have HO := Lib.hid hown
    have HST := Lib.hid hset
    have HND := Lib.hid hnd
    have HME := Lib.hid hmem
    have HLB := Lib.hid hlb
    have HLC := Lib.hid hlc
    have HIM := Lib.hid himg
    have HBW := Lib.hid hbw
    have HCN := Lib.hid hcnt
    have HCL := Lib.hid hcsl
    have HBS := Lib.hid hbs
    clear hgk hown hset hnd hmem hlb hlc himg hbw hcnt hcsl hbs
    by_cases hlt : i < N
    · have f2 := (cell_of_row wr _ 2 _ _ (0, 0) HIM.out).trans (show _ = some (Value.slice (some ⟨pb, po, none⟩) n cap) from rfl)
      have hsl := (HS.out.below HBW.out).drop (m := 4 * i) (by have := HNN.out; omega)
      have CC := Lib.hid (colour_any pb (po + 4 * i) (n - 4 * i) (cap - 4 * i) (l.drop (4 * i)) wr hsl (by have := HNN.out; omega))
      rw [pix_drop] at CC
      have hfit := HS.out.fits
      have hi4 : (4 : Int) * (i : Int) ≤ (n : Int) := by have := HNN.out; omega
      have hi5 : (i : Int) < (N : Int) := by omega
      have hi6 : N ≤ 65536 := by have := HNW.out; omega
      have hcok := HS.out.u16s.pix i
      obtain ⟨c, hc⟩ : ∃ c, pix l i = c := ⟨_, rfl⟩
      rw [hc] at CC hcok
      have HPC := Lib.hid hc
      clear hc hsl
      have hcap4 : ¬ cap = 4 * i := by have := HNN.out; omega
      go_wp2_with fail
      refine CC.out.mono ?_
      rintro e w3 ⟨rfl, hb3⟩
      have HB3 := Lib.hid hb3
      clear hb3 CC f2 hi4 hcap4
      go_upto_region 10 with (fail)
      have hB4 : Below wr.heap.size wr (w3.alloc (.cells #[.int .u16 c.r, .int .u16 c.g, .int .u16 c.b, .int .u16 c.a] 38)) := HB3.out.alloc HB3.out.size _
      have hnew := heap_alloc_new w3 (.cells #[.int .u16 c.r, .int .u16 c.g, .int .u16 c.b, .int .u16 c.a] 38 (0, 0))
      have hs4 : (w3.alloc (.cells #[.int .u16 c.r, .int .u16 c.g, .int .u16 c.b, .int .u16 c.a] 38)).heap.size = w3.heap.size + 1 := by simp
      have HB4 := Lib.hid hB4
      have HNEW := Lib.hid hnew
      have HS4 := Lib.hid hs4
      obtain ⟨nb, hnb⟩ : ∃ nb, w3.heap.size = nb := ⟨_, rfl⟩
      rw [hnb] at HNEW HS4 ⊢
      have HNB := Lib.hid hnb
      clear hB4 hnew hs4 hnb
      generalize w3.alloc (.cells #[.int .u16 c.r, .int .u16 c.g, .int .u16 c.b, .int .u16 c.a] 38) = w4 at *
      have HLB4 := Lib.hid ((HB4.out.block _ (block_lt HLB.out)).trans HLB.out)
      have n0 := (cell_of_row w4 _ 0 _ _ (0, 0) HNEW.out).trans (show _ = some (Value.int .u16 c.r) from rfl)
      have n1 := (cell_of_row w4 _ 1 _ _ (0, 0) HNEW.out).trans (show _ = some (Value.int .u16 c.g) from rfl)
      have n2 := (cell_of_row w4 _ 2 _ _ (0, 0) HNEW.out).trans (show _ = some (Value.int .u16 c.b) from rfl)
      have n3 := (cell_of_row w4 _ 3 _ _ (0, 0) HNEW.out).trans (show _ = some (Value.int .u16 c.a) from rfl)
      have m0 := (cell_of_row w4 _ 0 _ _ (0, 0) HLB4.out).trans (show _ = some (Value.int .u16 lc.r) from rfl)
      have m1 := (cell_of_row w4 _ 1 _ _ (0, 0) HLB4.out).trans (show _ = some (Value.int .u16 lc.g) from rfl)
      have m2 := (cell_of_row w4 _ 2 _ _ (0, 0) HLB4.out).trans (show _ = some (Value.int .u16 lc.b) from rfl)
      have m3 := (cell_of_row w4 _ 3 _ _ (0, 0) HLB4.out).trans (show _ = some (Value.int .u16 lc.a) from rfl)
      go_cut [20, 35] from 20 to 52 (fun s20 s35 wx => s20 = .int .i64 (i : Nat) ∧ s35 = .bool (decide (0 < i ∧ c = lc)) ∧ w4 = wx)
      case first =>
        --FAST{
        by_cases hi0 : i = 0
        · have hi0' : decide (0 < i) = false := decide_eq_false (by omega)
          have HI0 := Lib.hid hi0
          clear hi0
          go_wp2_with fail
          go_meet
          exact ⟨rfl, by rw [decide_eq_false (by have := HI0.out; omega)], rfl⟩
        · have hi0' : (0 : Int) < (i : Int) := by omega
          have hgc := guardCol
          have hec := eqCol c lc
          obtain ⟨bq, hbq⟩ : ∃ bq, decide (c = lc) = bq := ⟨_, rfl⟩
          rw [hbq] at hec
          have HBQ := Lib.hid hbq
          clear hbq
          have HDE : Hid (decide (0 < i ∧ c = lc) = bq) := Lib.hid (by rw [← HBQ.out]; by_cases h : c = lc <;> simp [h]; omega)
          cases bq
          · go_wp2_with fail
            go_meet
            exact ⟨rfl, by rw [HDE.out], rfl⟩
          · go_wp2_with fail
            go_meet
            exact ⟨rfl, by rw [HDE.out], rfl⟩
        --FAST}
      case rest =>
        obtain ⟨rfl, rfl, rfl⟩ := hcut
        clear m0 m1 m2 m3
        by_cases hsm : 0 < i ∧ c = lc
        · rw [decide_eq_true hsm]
          go_wp2_with fail
          go_roundg (N - (i + 1))
          case measure => have := Hg.out; omega
          case rel =>
            have hlcm : c = pix l (i - 1) := by rw [hsm.2]; exact HLC.out hsm.1
            refine ⟨i + 1, cnt, cs, lc, by omega, rfl, by go_num, HO.out.below HB4.out, HST.out.same (fun o ho => (HB4.out.block _ (block_lt ho)).trans ho), Nat.le_succ_of_le HCN.out, Nat.le_succ_of_le HCL.out, HND.out, ?_, HLB4.out, ?_, (HB4.out.block _ (block_lt HIM.out)).trans HIM.out, HBW.out.trans (HB4.out.mono HBW.out.size), Nat.le_trans HBS.out HB4.out.size⟩
            · intro x
              rw [HME.out]
              constructor
              · rintro ⟨k, hk, rfl⟩; exact ⟨k, by omega, rfl⟩
              · rintro ⟨k, hk, rfl⟩
                by_cases hki : k = i
                · subst hki
                  exact ⟨k - 1, by omega, by rw [HPC.out, hlcm]⟩
                · exact ⟨k, by omega, rfl⟩
            · intro _
              rw [show i + 1 - 1 = i by omega, HPC.out, hsm.2]
        · rw [decide_eq_false hsm]
          have HSM := Lib.hid hsm
          have hnbm : nb ≠ mb + 1 := by have h1 := HNB.out; have h2 := HB3.out.size; have h3 := block_lt HLB.out; omega
          have hz := zeroUnit
          obtain ⟨D, hmap, hD⟩ := HST.out
          have hhas := hD c hcok
          have hkey := keyOf_col c hcok
          clear hsm
          have hm4 : w4.ownsMap Tryz.prog 38 (unitElem (H := Unit)) mb cnt D := by
            obtain ⟨es, ck, h1, h2⟩ := hmap
            exact ⟨es, ck, (HB4.out.block _ (block_lt h1)).trans h1, h2⟩
          have HM4 := Lib.hid hm4
          have n5 := heap_setRow_other w4 (mb + 1) #[.int .u16 c.r, .int .u16 c.g, .int .u16 c.b, .int .u16 c.a] hnbm
          clear hmap hm4
          go_upto_region 12 with (refine wpList_store_row rfl 38 _ _ rfl (mb + 1) #[.int .u16 c.r, .int .u16 c.g, .int .u16 c.b, .int .u16 c.a] rfl rfl 38 _ HLB4.out (colSize4 _ _ _ _) rfl (colOne _ _ _ _) ?_)
          have hg5 := grownBy_setRow w4 (mb + 1) #[.int .u16 c.r, .int .u16 c.g, .int .u16 c.b, .int .u16 c.a]
          have hlb5 := setRow_heap w4 (mb + 1) _ #[.int .u16 c.r, .int .u16 c.g, .int .u16 c.b, .int .u16 c.a] _ _ HLB4.out
          have hnw5 := n5.trans HNEW.out
          have hbase : mb + 1 < w2.heap.size := by have := HS2.out; omega
          have ho5 : OwnC w2.heap.size (w4.setRow (mb + 1) #[.int .u16 c.r, .int .u16 c.g, .int .u16 c.b, .int .u16 c.a]) u4 cs := World.ownsRow.kept (HO.out.below HB4.out) hg5 (by
            rcases hv : u4.ownBlock with _ | g
            · exact .inl rfl
            · refine .inr (fun e => ?_)
              have h1 := (World.ownsRow.lt HO.out g hv).1
              have h2 := Option.some.inj e
              omega)
          have hm5 : (w4.setRow (mb + 1) #[.int .u16 c.r, .int .u16 c.g, .int .u16 c.b, .int .u16 c.a]).ownsMap Tryz.prog 38 (unitElem (H := Unit)) mb cnt D := by
            obtain ⟨es, ck, h1, h2⟩ := HM4.out
            exact ⟨es, ck, (heap_setRow_other _ _ _ (by omega)).trans h1, h2⟩
          have him5 : (w4.setRow (mb + 1) #[.int .u16 c.r, .int .u16 c.g, .int .u16 c.b, .int .u16 c.a]).heap[ib]? = some (.cells #[.int .i64 W, .int .i64 H, .slice (some ⟨pb, po, none⟩) n cap] 24 (0, 0)) :=
            (heap_setRow_other _ _ _ (by omega)).trans ((HB4.out.block _ (block_lt HIM.out)).trans HIM.out)
          have hbw5 : Below w.heap.size w (w4.setRow (mb + 1) #[.int .u16 c.r, .int .u16 c.g, .int .u16 c.b, .int .u16 c.a]) := below_setRow (HBW.out.trans (HB4.out.mono HBW.out.size)) (by have := HIB.out; omega) _
          have hbs5 : w2.heap.size ≤ (w4.setRow (mb + 1) #[.int .u16 c.r, .int .u16 c.g, .int .u16 c.b, .int .u16 c.a]).heap.size := Nat.le_trans (Nat.le_trans HBS.out HB4.out.size) hg5.size
          have HLB5 := Lib.hid hlb5
          have HNW5 := Lib.hid hnw5
          have HO5 := Lib.hid ho5
          have HM5 := Lib.hid hm5
          have HIM5 := Lib.hid him5
          have HBW5 := Lib.hid hbw5
          have HBS5 := Lib.hid hbs5
          clear hg5 hlb5 hnw5 ho5 hm5 him5 hbw5 hbs5 n0 n1 n2 n3 n5
          generalize w4.setRow (mb + 1) #[.int .u16 c.r, .int .u16 c.g, .int .u16 c.b, .int .u16 c.a] = w5 at *
          have p0 := (cell_of_row w5 _ 0 _ _ (0, 0) HNW5.out).trans (show _ = some (Value.int .u16 c.r) from rfl)
          have p1 := (cell_of_row w5 _ 1 _ _ (0, 0) HNW5.out).trans (show _ = some (Value.int .u16 c.g) from rfl)
          have p2 := (cell_of_row w5 _ 2 _ _ (0, 0) HNW5.out).trans (show _ = some (Value.int .u16 c.b) from rfl)
          have p3 := (cell_of_row w5 _ 3 _ _ (0, 0) HNW5.out).trans (show _ = some (Value.int .u16 c.a) from rfl)
          have HHAS := Lib.hid hhas
          have HDD := Lib.hid hD
          clear hhas hD
          have hmem' : ∀ cs' : List C4, (∀ x, x ∈ cs' ↔ x ∈ cs ∨ x = c) → ∀ x, x ∈ cs' ↔ ∃ k, k < i + 1 ∧ pix l k = x := by
            intro cs' h x
            rw [h, HME.out]
            constructor
            · rintro (⟨k, hk, rfl⟩ | rfl)
              · exact ⟨k, by omega, rfl⟩
              · exact ⟨i, by omega, HPC.out⟩
            · rintro ⟨k, hk, rfl⟩
              by_cases hki : k = i
              · exact .inr (by rw [hki, HPC.out])
              · exact .inl ⟨k, by omega, rfl⟩
          have HMM := Lib.hid hmem'
          clear hmem'
          go_upto_region 13 with (at_lookup; go_must (refine wpList_lookup_own_unit _ rfl _ _ 67 rfl 38 57 law_col Tryz.underlying67 (zeroUnit _) mb cnt D rfl HM5.out _ _ rfl hkey ?_))
          rw [HHAS.out]
          have B6 := Lib.hid ((Below.refl w5.heap.size w5).alloc (Nat.le_refl _) (.cells #[] 57))
          have hs6 : (w5.alloc (.cells #[] 57)).heap.size = w5.heap.size + 1 := by simp
          have HS6 := Lib.hid hs6
          clear hs6 p0 p1 p2 p3
          generalize w5.alloc (.cells #[] 57) = w6 at *
          have HNW6 := Lib.hid ((B6.out.block _ (block_lt HNW5.out)).trans HNW5.out)
          have HLB6 := Lib.hid ((B6.out.block _ (block_lt HLB5.out)).trans HLB5.out)
          have HIM6 := Lib.hid ((B6.out.block _ (block_lt HIM5.out)).trans HIM5.out)
          have HO6 := Lib.hid (HO5.out.below B6.out)
          have HBW6 := Lib.hid (HBW5.out.trans (B6.out.mono HBW5.out.size))
          have HBS6 := Lib.hid (Nat.le_trans HBS5.out B6.out.size)
          have hm6 : w6.ownsMap Tryz.prog 38 (unitElem (H := Unit)) mb cnt D := by
            obtain ⟨es, ck, h1, h2⟩ := HM5.out
            exact ⟨es, ck, (B6.out.block _ (block_lt h1)).trans h1, h2⟩
          by_cases hin : c ∈ cs
          · rw [decide_eq_true hin]
            have HIN := Lib.hid hin
            have HM6 := Lib.hid hm6
            clear hin hm6
            go_wp2_with fail
            go_roundg (N - (i + 1))
            case measure => have := Hg.out; omega
            case rel =>
              exact ⟨i + 1, cnt, cs, c, by omega, rfl, by go_num, HO6.out, ⟨D, HM6.out, HDD.out⟩, Nat.le_succ_of_le HCN.out, Nat.le_succ_of_le HCL.out, HND.out, HMM.out cs (fun x => ⟨.inl, fun h => h.elim id (fun e => by rw [e]; exact HIN.out)⟩), HLB6.out, fun _ => by rw [show i + 1 - 1 = i by omega]; exact HPC.out.symm, HIM6.out, HBW6.out, HBS6.out⟩
          · rw [decide_eq_false hin]
            have HIN := Lib.hid hin
            clear hin
            have hcnt : cnt < maxLen := by have := HCN.out; unfold maxLen; omega
            have r0 := (cell_of_row w6 _ 0 _ _ (0, 0) HNW6.out).trans (show _ = some (Value.int .u16 c.r) from rfl)
            have r1 := (cell_of_row w6 _ 1 _ _ (0, 0) HNW6.out).trans (show _ = some (Value.int .u16 c.g) from rfl)
            have r2 := (cell_of_row w6 _ 2 _ _ (0, 0) HNW6.out).trans (show _ = some (Value.int .u16 c.b) from rfl)
            have r3 := (cell_of_row w6 _ 3 _ _ (0, 0) HNW6.out).trans (show _ = some (Value.int .u16 c.a) from rfl)
            obtain ⟨es6, ck6, hb6, hrest6⟩ := hm6
            have HB6M := Lib.hid hb6
            have hm6 : w6.ownsMap Tryz.prog 38 (unitElem (H := Unit)) mb cnt D := ⟨es6, ck6, hb6, hrest6⟩
            have HIS := Lib.hid (show IsMap D by obtain ⟨es, ck, _, _, _, e⟩ := hm6; exact ⟨_, e⟩)
            clear hb6 hrest6
            go_upto_region 15 with (at_mapUpdate; go_must (refine wpList_mapUpdate_own _ rfl _ _ _ 67 rfl 38 57 law_col Tryz.underlying67 _ mb cnt _ rfl hm6 hcnt _ _ _ rfl rfl hkey _ [] unitElem_mk ?_; intro w7 hm7 hg7; have HM7 := Lib.hid hm7; have HG7 := Lib.hid hg7; clear hm7 hg7))
            have nmb : ∀ {j : Nat} {a : Array Value} {t : TypeId}, w6.heap[j]? = some (.cells a t (0, 0)) → w7.heap[j]? = some (.cells a t (0, 0)) := by
              intro j a t h1
              refine (HG7.out.block j (block_lt h1) ?_).trans h1
              intro e
              exact map_apart HB6M.out h1 (Option.some.inj e).symm
            have HNW7 := Lib.hid (nmb HNW6.out)
            have HLB7 := Lib.hid (nmb HLB6.out)
            have HIM7 := Lib.hid (nmb HIM6.out)
            have ho7 : OwnC w2.heap.size w7 u4 cs := World.ownsRow.kept HO6.out HG7.out (.inr (Ne.symm (own_not_loop HO6.out HB6M.out rfl)))
            have hnm7 : some mb ≠ u4.ownBlock := own_not_loop HO6.out HB6M.out rfl
            have HNM := Lib.hid hnm7
            have HBW7 := Lib.hid (HBW6.out.grown HG7.out HBW6.out.size (fun j e => by cases e; have := HIB.out; omega))
            have HBS7 := Lib.hid (Nat.le_trans HBS6.out HG7.out.size)
            clear nmb hm6 r0 r1 r2 r3 hnm7
            have r0 := (cell_of_row w7 _ 0 _ _ (0, 0) HNW7.out).trans (show _ = some (Value.int .u16 c.r) from rfl)
            have r1 := (cell_of_row w7 _ 1 _ _ (0, 0) HNW7.out).trans (show _ = some (Value.int .u16 c.g) from rfl)
            have r2 := (cell_of_row w7 _ 2 _ _ (0, 0) HNW7.out).trans (show _ = some (Value.int .u16 c.b) from rfl)
            have r3 := (cell_of_row w7 _ 3 _ _ (0, 0) HNW7.out).trans (show _ = some (Value.int .u16 c.a) from rfl)
            have B8 := Lib.hid ((Below.refl w7.heap.size w7).alloc (Nat.le_refl _) (.cells #[.int .u16 c.r, .int .u16 c.g, .int .u16 c.b, .int .u16 c.a] 38))
            have HG8 := Lib.hid (heap_alloc_new w7 (.cells #[.int .u16 c.r, .int .u16 c.g, .int .u16 c.b, .int .u16 c.a] 38 (0, 0)))
            have HO8 := Lib.hid (ho7.below B8.out)
            have HS8 := Lib.hid (Nat.le_trans HBS7.out B8.out.size)
            have hcl6 : cs.length ≤ 65536 := by have := HCL.out; omega
            clear ho7
            go_wp2_with (at_builtin; go_must (refine wpList_of_append rfl (.tmp 48) (.tmp 50) 34 34 rfl (run_append_col _ _ w2.heap.size u4 cs c HO8.out (by omega) HS8.out w7.heap.size HG8.out) ?_; rintro v9 w9 ⟨ho9, hg9, hv9⟩; have HO9 := Lib.hid ho9; have HG9 := Lib.hid hg9; clear ho9 hg9 hv9))
            go_roundg (N - (i + 1))
            case measure => have := Hg.out; omega
            case rel =>
              have hlt9 := World.ownsRow.lt HO8.out
              have ne9 : ∀ {j : Nat} {o : Obj}, w7.heap[j]? = some o → j < w2.heap.size → w9.heap[j]? = some o := by
                intro j o h1 h2
                refine (HG9.out.block j (Nat.lt_of_lt_of_le (block_lt h1) B8.out.size) ?_).trans ((B8.out.block _ (block_lt h1)).trans h1)
                intro e
                have := (hlt9 _ e.symm).1
                omega
              have hm9 : w9.ownsMap Tryz.prog 38 (unitElem (H := Unit)) mb (cnt + 1) (D.put c.key (.agg [])) := by
                obtain ⟨es, ck, h1, h2⟩ := HM7.out
                exact ⟨es, ck, ne9 h1 (by omega), h2⟩
              refine ⟨i + 1, cnt + 1, cs ++ [c], c, by omega, rfl, by go_num, HO9.out, setC_put hcok HDD.out HIS.out _ hm9, by have := HCN.out; omega, by have := HCL.out; simp; omega, ?_, HMM.out (cs ++ [c]) (fun x => by simp), ne9 HLB7.out hbase, fun _ => by rw [show i + 1 - 1 = i by omega]; exact HPC.out.symm, ne9 HIM7.out (by omega), ?_, ?_⟩
              · rw [List.nodup_append]
                refine ⟨HND.out, by simp, ?_⟩
                intro x hx y hy
                rw [List.mem_singleton.1 hy]
                rintro rfl
                exact HIN.out hx
              · exact (HBW7.out.trans (B8.out.mono HBW7.out.size)).grown HG9.out (Nat.le_trans HBW7.out.size B8.out.size) (fun j e => by have := (hlt9 _ e).1; have := HIB.out; omega)
              · exact Nat.le_trans HS8.out HG9.out.size
    · obtain rfl : i = N := by omega
      go_wp2_with fail
      go_ret
      exact ⟨_, cs, rfl, ownsRow_base HO.out (by have := HS2.out; have := HIB.out; omega), HND.out, HME.out, HBW.out⟩
end Go.Proofs.YtioeifbobhdccaaGreatDoor
