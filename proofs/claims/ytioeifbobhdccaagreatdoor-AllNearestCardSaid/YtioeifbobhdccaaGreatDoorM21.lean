/- quant.Apply: each pixel's nearest colour. -/
import Derived.Test.YtioeifbobhdccaaGreatDoorM20
import Derived.Test.YtioeifbobhdccaaGreatDoorM14
import Derived.RangeFuncWrites
import Derived.Sort.CutIn
namespace Go.Proofs.YtioeifbobhdccaaGreatDoor
open Go.RowKit Go.Sort Go.Shelf Go.Maps
attribute [local go_sem] Oper.semAt_some
/-- a pixel's index -/
def idxOf (P : List C4) (z : Int) (c : C4) : Int := if 0 ≤ z ∧ c.a < 32768 then z else near P c.eight P.length
def idxs (P : List C4) (z : Int) (t : List C4) : List Int := t.map (idxOf P z)
theorem zeroI64 (w : World) : (zeroValue 3).run Tryz.prog w = .ok (.int .i64 0) w := by kernel_rfl
theorem palInfo : (Tryz.prog.info? 40).map (fun i => (i.zero, i.size)) = some (some (.agg #[.int .i64 0, .int .i64 0, .slice none 0 0, .slice none 0 0]), 4) := by kernel_rfl
theorem palSize4 (a b c d : Value) : (Tryz.prog.info? 40).map (·.size) = some (#[a, b, c, d] : Array Value).size := by
  have h : (Tryz.prog.info? 40).map (·.size) = some 4 := by kernel_rfl
  exact h
theorem alloc3 (w : World) (o1 o2 o3 : Obj) : ∃ W, W = ((w.alloc o1).alloc o2).alloc o3 ∧ W.heap[w.heap.size]? = some o1 ∧ W.heap[w.heap.size + 1]? = some o2 ∧ W.heap[w.heap.size + 1 + 1]? = some o3 ∧ W.heap.size = w.heap.size + 1 + 1 + 1 ∧ Below w.heap.size w W := by
  obtain ⟨q1, q2⟩ := heap2 w o1 o2
  have q3 := heap_alloc_new ((w.alloc o1).alloc o2) o3
  have hs : ((w.alloc o1).alloc o2).heap.size = w.heap.size + 1 + 1 := by simp
  have hb : Below ((w.alloc o1).alloc o2).heap.size ((w.alloc o1).alloc o2) (((w.alloc o1).alloc o2).alloc o3) := (Below.refl _ _).alloc (Nat.le_refl _) _
  rw [hs] at q3
  exact ⟨_, rfl, (hb.block _ (block_lt q1)).trans q1, (hb.block _ (block_lt q2)).trans q2, q3, by simp, (((Below.refl _ w).alloc (Nat.le_refl _) o1).alloc (by simp) o2).alloc (by simp; omega) o3⟩
/-- what Apply's loop holds -/
structure ApI (w : World) (B : Nat) (fix : List (Nat × Array Value × TypeId)) (ob mb pB : Nat) (W H : Int) (vp : Value) (P : List C4) (m : Nat) (xs : List Int) (Wd : World) : Prop where
  fix : ∀ p ∈ fix, Wd.heap[p.1]? = some (.cells p.2.1 p.2.2 (0, 0))
  out : ∃ vi, Wd.heap[ob]? = some (.cells #[.int .i64 W, .int .i64 H, vp, vi] 40 (0, 0)) ∧ Wd.ownsRow B 5 1 vi xs.length (xs.map (Value.int .u8))
  pal : OwnC pB Wd vp P
  map : ∃ cnt f, MapC Wd mb cnt f ∧ cnt ≤ m ∧ ∀ c k, c.ok → f c = some k → k = near P c P.length
  below : Below w.heap.size w Wd
structure ApAt (w : World) (B : Nat) (fix : List (Nat × Array Value × TypeId)) (ob mb : Nat) (vp : Value) : Prop where
  f : ∀ p ∈ fix, p.1 < B ∧ p.1 ≠ ob
  o : w.heap.size ≤ ob ∧ ob < B
  m : w.heap.size ≤ mb ∧ mb < B
  p : ∀ r, vp.ownBlock = some r → r < B
section
variable {w : World} {B : Nat} {fix : List (Nat × Array Value × TypeId)} {ob mb pB : Nat} {W H : Int} {vp : Value} {P : List C4} {m : Nat} {xs : List Int} {Wd W' : World}
theorem ApI.grown {row : Option Nat} (hA : ApAt w B fix ob mb vp) (h : ApI w B fix ob mb pB W H vp P m xs Wd) (hg : Wd.grownBy W' row)
    (hr : ∀ r, row = some r → B ≤ r ∧ ∀ vi, Wd.heap[ob]? = some (.cells #[.int .i64 W, .int .i64 H, vp, vi] 40 (0, 0)) → vi.ownBlock ≠ some r) : ApI w B fix ob mb pB W H vp P m xs W' := by
  have hB : w.heap.size ≤ B := Nat.le_of_lt (Nat.lt_of_le_of_lt hA.o.1 hA.o.2)
  have nr : ∀ j, j < B → some j ≠ row := by
    intro j hj e
    have := (hr j e.symm).1
    omega
  obtain ⟨vi, ho, hx⟩ := h.out
  obtain ⟨cnt, f, hm, hc, hf⟩ := h.map
  obtain ⟨es, ck, hmb⟩ := hm.block
  refine ⟨fun p hp => grown_block hg (h.fix p hp) (nr _ (hA.f p hp).1), ⟨vi, grown_block hg ho (nr _ hA.o.2), World.ownsRow.kept hx hg ?_⟩, World.ownsRow.kept h.pal hg ?_, ⟨cnt, f, hm.same (fun o h1 => grown_block hg h1 (nr _ hA.m.2)), hc, hf⟩, h.below.grown hg h.below.size (fun j e => Nat.le_trans hB (hr j e).1)⟩
  · rcases hv : vi.ownBlock with _ | g
    · exact .inl rfl
    · exact .inr fun e => (hr g e.symm).2 vi ho hv
  · rcases hv : vp.ownBlock with _ | g
    · exact .inl rfl
    · exact .inr (nr _ (hA.p g hv))
theorem ApI.at_below (hA : ApAt w B fix ob mb vp) (h : ApI w B fix ob mb pB W H vp P m xs Wd) (hb : Below Wd.heap.size Wd W') : ApI w B fix ob mb pB W H vp P m xs W' :=
  h.grown hA (grown_of_below hb) (fun r e => by cases e)
theorem ApI.own {row : Option Nat} {D : Nat} (hD : B ≤ D) (hA : ApAt w B fix ob mb vp) (h : ApI w B fix ob mb pB W H vp P m xs Wd) (hg : Wd.grownBy W' row) (hr : ∀ r, row = some r → D ≤ r ∧ ∃ o : Obj, Wd.heap[r]? = some o ∧ o.isCells = false) : ApI w B fix ob mb pB W H vp P m xs W' := by
  obtain ⟨vi, ho, hx⟩ := h.out
  refine h.grown hA hg fun r e => ⟨Nat.le_trans hD (hr r e).1, fun vi' ho' e' => ?_⟩
  rw [ho] at ho'
  cases ho'
  obtain ⟨o, h1, h2⟩ := (hr r e).2
  exact own_not_loop hx h1 h2 e'.symm
theorem ApI.mapped {cnt : Nat} {f : C4 → Option Int} (hA : ApAt w B fix ob mb vp) (h : ApI w B fix ob mb pB W H vp P m xs Wd) (hg : Wd.grownBy W' (some mb)) (hm : MapC W' mb cnt f) (hc : cnt ≤ m + 1) (hf : ∀ c k, c.ok → f c = some k → k = near P c P.length) : ApI w B fix ob mb pB W H vp P (m + 1) xs W' := by
  obtain ⟨vi, ho, hx⟩ := h.out
  obtain ⟨cnt', f', hm', _, _⟩ := h.map
  obtain ⟨es, ck, hmb⟩ := hm'.block
  have key : ∀ {j : Nat} {a : Array Value} {t : TypeId}, Wd.heap[j]? = some (.cells a t (0, 0)) → W'.heap[j]? = some (.cells a t (0, 0)) := by
    intro j a t h1
    refine grown_block hg h1 ?_
    intro e
    exact map_apart hmb h1 (Option.some.inj e).symm
  exact ⟨fun p hp => key (h.fix p hp), ⟨vi, key ho, World.ownsRow.kept hx hg (.inr (Ne.symm (own_not_loop hx hmb rfl)))⟩, World.ownsRow.kept h.pal hg (.inr (Ne.symm (own_not_loop h.pal hmb rfl))), ⟨cnt, f, hm, hc, hf⟩, h.below.grown hg h.below.size (fun j e => by cases e; exact hA.m.1)⟩
theorem ApI.lt {a1 a2 a3 a4 a5 a6 a7 : Array Value} {t1 t2 t3 t4 t5 t6 t7 : TypeId} {j1 j2 j3 j4 j5 j6 j7 : Nat} (hf : fix = [(j1, a1, t1), (j2, a2, t2), (j3, a3, t3), (j4, a4, t4), (j5, a5, t5), (j6, a6, t6), (j7, a7, t7)]) (h : ApI w B fix ob mb pB W H vp P m xs Wd) : ∀ j ∈ [j4, j5, j6], j < Wd.heap.size := by
  subst hf
  intro j hj
  simp only [List.mem_cons, List.not_mem_nil, or_false] at hj
  rcases hj with rfl | rfl | rfl
  · exact block_lt (h.fix (_, a4, t4) (by simp))
  · exact block_lt (h.fix (_, a5, t5) (by simp))
  · exact block_lt (h.fix (_, a6, t6) (by simp))
theorem ApI.setRow {q : Nat} {old cs : Array Value} (hA : ApAt w B fix ob mb vp) (h : ApI w B fix ob mb pB W H vp P m xs Wd) (hq : B ≤ q) (hc : Wd.heap[q]? = some (.cells old 38 (0, 0))) : ApI w B fix ob mb pB W H vp P m xs (Wd.setRow q cs) := by
  obtain ⟨vi, ho, hx⟩ := h.out
  refine h.grown hA (grownBy_setRow Wd q cs) fun r e => ?_
  cases e
  refine ⟨hq, fun vi' ho' e' => ?_⟩
  rw [ho] at ho'
  cases ho'
  exact own_ne hx hc (by decide) e'.symm
theorem keeps_setRow {q : Nat} {old cs : Array Value} {t : TypeId} (hc : Wd.heap[q]? = some (.cells old t (0, 0))) : KeepsOthers Wd (Wd.setRow q cs) :=
  KeepsOthers.of_grownBy (grownBy_setRow Wd q cs) fun j o e hj => by
    cases e
    rw [hc] at hj
    cases hj
    rfl
theorem ApI.keepsL {m' : Nat} {xs' : List Int} {a1 a2 a3 a4 a5 a6 a7 : Array Value} {t1 t2 t3 t4 t5 t6 t7 : TypeId} {j1 j2 j3 j4 j5 j6 j7 : Nat} (hf : fix = [(j1, a1, t1), (j2, a2, t2), (j3, a3, t3), (j4, a4, t4), (j5, a5, t5), (j6, a6, t6), (j7, a7, t7)])
    (h : ApI w B fix ob mb pB W H vp P m xs Wd) (k : ApI w B fix ob mb pB W H vp P m' xs' W') : KeepsL [j4, j5, j6] Wd W' := by
  subst hf
  intro j hj
  simp only [List.mem_cons, List.not_mem_nil, or_false] at hj
  rcases hj with rfl | rfl | rfl
  · exact (k.fix (_, a4, t4) (by simp)).trans (h.fix (_, a4, t4) (by simp)).symm
  · exact (k.fix (_, a5, t5) (by simp)).trans (h.fix (_, a5, t5) (by simp)).symm
  · exact (k.fix (_, a6, t6) (by simp)).trans (h.fix (_, a6, t6) (by simp)).symm
theorem ApI.weak (h : ApI w B fix ob mb pB W H vp P m xs Wd) : ApI w B fix ob mb pB W H vp P (m + 1) xs Wd := by
  obtain ⟨cnt, f, hm, hc, hf⟩ := h.map
  exact ⟨h.fix, h.out, h.pal, ⟨cnt, f, hm, Nat.le_succ_of_le hc, hf⟩, h.below⟩
theorem ApI.app {w2 : World} {vi v' : Value} {xs' : List Int} (hA : ApAt w B fix ob mb vp) (h : ApI w B fix ob mb pB W H vp P m xs Wd) (ho : Wd.heap[ob]? = some (.cells #[.int .i64 W, .int .i64 H, vp, vi] 40 (0, 0)))
    (hg : Wd.grownBy w2 vi.ownBlock) (hown : w2.ownsRow B 5 1 v' xs'.length (xs'.map (Value.int .u8))) :
    w2.heap[ob]? = some (.cells #[.int .i64 W, .int .i64 H, vp, vi] 40 (0, 0)) ∧ ApI w B fix ob mb pB W H vp P m xs' (w2.setCell ⟨ob, 3, none⟩ v') ∧ KeepsOthers Wd (w2.setCell ⟨ob, 3, none⟩ v') := by
  obtain ⟨vi', ho', hx⟩ := h.out
  rw [ho] at ho'
  cases ho'
  have hB : w.heap.size ≤ B := Nat.le_of_lt (Nat.lt_of_le_of_lt hA.o.1 hA.o.2)
  have nr : ∀ j, j < B → some j ≠ vi.ownBlock := by
    intro j hj e
    have := (World.ownsRow.lt hx j e.symm).1
    omega
  obtain ⟨cnt, f, hm, hc, hf⟩ := h.map
  obtain ⟨es, ck, hmb⟩ := hm.block
  have o2 := grown_block hg ho (nr _ hA.o.2)
  have k1 := grownBy_setCell3 w2 ob 3 v'
  have ne : ∀ {j : Nat}, j ≠ ob → some j ≠ some ob := fun h1 e => h1 (Option.some.inj e)
  have hmo : mb ≠ ob := map_apart hmb ho
  refine ⟨o2, ⟨fun p hp => grown_block k1 (grown_block hg (h.fix p hp) (nr _ (hA.f p hp).1)) (ne (hA.f p hp).2), ⟨v', heap_setCell_same w2 ob 3 _ _ v' o2, World.ownsRow.kept hown k1 (.inr fun e => own_ne hown o2 (by decide) e.symm)⟩, World.ownsRow.kept (World.ownsRow.kept h.pal hg ?_) k1 (.inr fun e => own_ne h.pal ho (by decide) e.symm), ⟨cnt, f, hm.same (fun o h1 => grown_block k1 (grown_block hg h1 (nr _ hA.m.2)) (ne hmo)), hc, hf⟩, ?_⟩, ?_⟩
  · rcases hv : vp.ownBlock with _ | g
    · exact .inl rfl
    · exact .inr (nr _ (hA.p g hv))
  · have hb := h.below.grown hg h.below.size (fun j e => Nat.le_trans hB (World.ownsRow.lt hx j e).1)
    exact hb.setCell (p := ⟨ob, 3, none⟩) hA.o.1 _
  · refine (KeepsOthers.of_grownBy hg fun j o e hj => ?_).trans (KeepsOthers.setCell _ _ _)
    rcases hx.2 with ⟨rfl, _⟩ | ⟨g0, cap0, cur, rfl, _, hgg, _⟩
    · cases e
    · cases e
      have := hgg.symm.trans hj
      cases this
      rfl
end
/-- the colours of the places that were met -/
def seenC {N : Nat} (t : List C4) (pre : List (GIx N)) : List C4 := pre.map fun x => t.getD x.1 ⟨0, 0, 0, 0⟩
theorem seenC_snoc {N : Nat} (t : List C4) (pre : List (GIx N)) (x : GIx N) : seenC t (pre ++ [x]) = seenC t pre ++ [t.getD x.1 ⟨0, 0, 0, 0⟩] := by simp [seenC]
theorem seenC_all {N : Nat} {t : List C4} {ys : List (GIx N)} (ht : t.length = N) (h1 : ys.length = N) (h2 : upTo ys) : seenC t ys = t := by
  have : seenC t ys = (ys.map (·.1)).map fun k => t.getD k ⟨0, 0, 0, 0⟩ := by simp [seenC]
  rw [this, h2, h1]
  apply List.ext_getElem
  · simp [ht]
  · intro i a b
    simp [List.getElem?_eq_getElem b]
theorem idxs_length (P : List C4) (z : Int) (t : List C4) : (idxs P z t).length = t.length := by simp [idxs]
theorem idxs_snoc (P : List C4) (z : Int) (t : List C4) (c : C4) : idxs P z (t ++ [c]) = idxs P z t ++ [idxOf P z c] := by simp [idxs]
/-- a call within a round -/
theorem round_call {n l f : Nat} {P : Program} {args : Array Value} {w : World} {R : Ending → World → Prop} (h : Calls P f args w R) : Fence.wide.fn f ∧ CallsIn (Fence.wide.inRound l) n P f args w R := ⟨trivial, CallsIn.inRound _ (callsIn_wide.2 h)⟩
def ApplyPost (W H : Int) (t P : List C4) (w : World) (e : Ending) (w' : World) : Prop :=
  ∃ z vp vi, NoneAt P z ∧ e = .returned (.tuple #[.agg #[.int .i64 W, .int .i64 H, vp, vi], .int .i64 0]) ∧ OwnC w.heap.size w' vp P ∧
    w'.ownsRow w.heap.size 5 1 vi t.length ((idxs P z t).map (Value.int .u8)) ∧ Below w.heap.size w w'
set_option maxRecDepth 100000 in
set_option maxHeartbeats 3200000 in
theorem apply_any (W H : Int) (p : Option Addr) (n cap : Nat) (l : List Int) (w : World) (h : Sl .u16 w p n cap l) (hg : imgGood W H n) (N : Nat) (hN : n = 4 * N)
    (qb qo qc : Nat) (P : List C4) (hP : RdC w (some ⟨qb, qo, none⟩) P) (hP1 : 1 ≤ P.length) (hP2 : P.length ≤ 256) (hok : ∀ c ∈ P, c.ok) :
    Calls Tryz.prog 10 #[.agg #[.int .i64 W, .int .i64 H, .slice p n cap], .slice (some ⟨qb, qo, none⟩) P.length qc] w (ApplyPost W H (cols l N) P w) := by
  have hsides := sides_mul hg.1 hg.2.1 hg.2.2.1 hg.2.2.2.1
  have hNW : (N : Int) = W * H := by have := hg.2.2.2.2.2; omega
  have hN6 : N ≤ 65536 := by have := hg.2.2.2.2.1; omega
  have hW1 : 1 ≤ W := hg.1
  have HNW := Lib.hid hNW
  have HS := Lib.hid h
  have HG := Lib.hid hg
  have HNN := Lib.hid hN
  have HRD := Lib.hid hP
  have HOK := Lib.hid hok
  clear h hg hN hP hok hNW hsides
  refine (callsIn_wide (n := 6)).1 (callsIn_of_wp_marks Tryz.func10 rfl trivial ?_ rfl)
  simp only [Tryz.ntmps10, List.size_toArray, List.length_cons, List.length_nil, Nat.reduceAdd, Nat.reduceSub, Array.replicate_succ, Array.replicate_zero, List.push_toArray, List.append_toArray, List.nil_append, List.cons_append]
  refine wpIn_wide.2 ?_
  go_upto_region 1 with (fail)
  obtain ⟨w0, hw0, k1, k2, k3, hs0, hB0⟩ := alloc3 w (.cells #[.int .i64 W, .int .i64 H, .slice p n cap] 24) (.cells #[.slice (some ⟨qb, qo, none⟩) P.length qc] 34) (.cells #[.int .i64 0, .int .i64 0, .slice none 0 0, .slice none 0 0] 40)
  rw [← hw0]
  clear hw0
  obtain ⟨ib, hib⟩ : ∃ ib, w.heap.size = ib := ⟨_, rfl⟩
  have HIB := Lib.hid hib
  have HB0 := Lib.hid hB0
  rw [hib] at k1 k2 k3 hs0 ⊢
  have HS0 := Lib.hid hs0
  have K1 := Lib.hid k1
  have K2 := Lib.hid k2
  have K3 := Lib.hid k3
  clear k1 k2 k3 hs0 hB0 hib
  have c0 := (cell_of_row w0 _ 0 _ _ (0, 0) K1.out).trans (show _ = some (Value.int .i64 W) from rfl)
  have c1 := (cell_of_row w0 _ 1 _ _ (0, 0) K1.out).trans (show _ = some (Value.int .i64 H) from rfl)
  have c2 := (cell_of_row w0 _ 2 _ _ (0, 0) K1.out).trans (show _ = some (Value.slice p n cap) from rfl)
  have CG := Lib.hid (grid_any W H p n cap l w0 (HS.out.below HB0.out) HG.out N HNN.out)
  go_wp2_with fail
  refine CG.out.mono ?_
  rintro e w1 ⟨g, cb, cc, rfl, hga, hb1⟩
  have HGA := Lib.hid hga
  have HB1 := Lib.hid hb1
  have d0 := keep_cell hb1 c0
  have d1 := keep_cell hb1 c1
  have KA := Lib.hid ((hb1.block _ (block_lt K1.out)).trans K1.out)
  have KB := Lib.hid ((hb1.block _ (block_lt K2.out)).trans K2.out)
  have KC := Lib.hid ((hb1.block _ (block_lt K3.out)).trans K3.out)
  have d3 := (cell_of_row w1 _ 0 _ _ (0, 0) KB.out).trans (show _ = some (Value.slice (some ⟨qb, qo, none⟩) P.length qc) from rfl)
  have HBw1 := Lib.hid (HB0.out.trans (hb1.mono HB0.out.size))
  clear c0 c1 c2 hga hb1 CG K1 K2 K3
  obtain ⟨pn, hpn⟩ : ∃ m, P.length = m := ⟨_, rfl⟩
  rw [hpn] at hP1 hP2 d3 KB ⊢
  have HPN := Lib.hid hpn
  clear hpn
  have CI : Hid (NonePost P w1 |> fun R => Calls Tryz.prog 32 #[.slice (some ⟨qb, qo, none⟩) pn qc, .func (.func 33) #[] #[]] w1 R) := Lib.hid (by
    have := indexNone_any (some ⟨qb, qo, none⟩) qc P w1 (HRD.out.below HBw1.out) HOK.out (by rw [HPN.out]; omega)
    rw [HPN.out] at this
    exact this)
  have p1 : ¬ ((pn : Int) < 1) := by omega
  have p2 : ¬ ((pn : Int) > 256) := by omega
  have p3 : decide ((pn : Int) < 1) = false := by simp; omega
  have p4 : decide ((256 : Int) < (pn : Int)) = false := by simp; omega
  go_wp2_with fail
  refine CI.out.mono ?_
  rintro e w2 ⟨z, rfl, hz, hb2⟩
  have HZ := Lib.hid hz
  have HB2 := Lib.hid hb2
  have hmm := @run_makeMap Tryz.prog
  clear hz hb2 CI p1 p2 p3 p4 d3
  go_upto_region 8 with (fail)
  obtain ⟨w3, hw3, k1, k2, k3, hs3, hB3⟩ := alloc3 w2 (.cells #[.int .i64 z] 3) (.map #[] 0) (.cells #[.map (some (w2.heap.size + 1))] 75)
  rw [← hw3]
  clear hw3 hmm
  obtain ⟨nb, hnb⟩ : ∃ nb, w2.heap.size = nb := ⟨_, rfl⟩
  have HNB := Lib.hid hnb
  rw [hnb] at k1 k2 k3 hs3 ⊢
  have HS3 := Lib.hid hs3
  have N1 := Lib.hid k1
  have N2 := Lib.hid k2
  have N3 := Lib.hid k3
  have hB13 : Below w1.heap.size w1 w3 := HB2.out.trans (hB3.mono HB2.out.size)
  have x0 := keep_cell hB13 d0
  have x1 := keep_cell hB13 d1
  have HA := Lib.hid ((hB13.block _ (block_lt KA.out)).trans KA.out)
  have HB := Lib.hid ((hB13.block _ (block_lt KB.out)).trans KB.out)
  have HC := Lib.hid ((hB13.block _ (block_lt KC.out)).trans KC.out)
  have HBw3 := Lib.hid (HBw1.out.trans (hB13.mono HBw1.out.size))
  have HGR := Lib.hid (HGA.out.below hB13)
  have x3 := (cell_of_row w3 _ 0 _ _ (0, 0) HB.out).trans (show _ = some (Value.slice (some ⟨qb, qo, none⟩) pn qc) from rfl)
  clear k1 k2 k3 hs3 hB3 hnb hB13 d0 d1 KA KB KC
  have CC : Hid (∀ u, Below w3.heap.size w3 u → Calls Tryz.prog 34 #[.slice (some ⟨qb, qo, none⟩) pn qc] u fun e w' => ∃ g c, e = .returned (.slice (some ⟨g, 0, none⟩) pn c) ∧ u.heap.size ≤ g ∧ OwnC u.heap.size w' (.slice (some ⟨g, 0, none⟩) pn c) P ∧ Below u.heap.size u w') := Lib.hid (by
    intro u hu
    have := cloneC_any qb qo qc P u ((HRD.out.below HBw3.out).below hu) (by rw [HPN.out]; omega) (by rw [HPN.out]; omega)
    unfold CloneC at this
    rw [HPN.out] at this
    exact this)
  refine wp_region_any (by kernel_rfl) ?_
  refine wpAny_laid_tails (D := fun i => ([37, 38, 39, 40, 41, 42, 43, 10] : List Nat).getD i 0)
    (R := fun i v w' => match i with
      | 0 => v = .pointer (some ⟨ib, 0, none⟩)
      | 1 => v = .int .i64 W
      | 2 => v = .pointer (some ⟨ib, 1, none⟩)
      | 3 => v = .int .i64 H
      | 4 => v = .slice (some ⟨qb, qo, none⟩) pn qc
      | 5 => ∃ g c, v = .slice (some ⟨g, 0, none⟩) pn c ∧ w3.heap.size ≤ g ∧ OwnC w3.heap.size w' (.slice (some ⟨g, 0, none⟩) pn c) P
      | 6 => ∃ g c, v = .agg #[.int .i64 W, .int .i64 H, .slice (some ⟨g, 0, none⟩) pn c, .slice none 0 0] ∧ w3.heap.size ≤ g ∧ OwnC w3.heap.size w' (.slice (some ⟨g, 0, none⟩) pn c) P
      | 7 => ∃ b, v = .pointer (some ⟨b, 0, none⟩) ∧ w3.heap.size ≤ b ∧ w'.heap[b]? = some (.cells #[.int .i64 0, .int .i64 0, .slice none 0 0, .slice none 0 0] 40 (0, 0))
      | _ => True)
    (S := fun a' w' => (a'.tmps[2]? = some (.pointer (some ⟨ib, 0, none⟩)) ∧ a'.tmps[3]? = some (.pointer (some ⟨ib + 1, 0, none⟩))) ∧ Below w3.heap.size w3 w')
    8 (by decide) (by kernel_rfl) (by decide +kernel) (by decide +kernel) (by decide +kernel) (by decide +kernel) (by kernel_rfl) ?_ ?_ ?_ ?_
  · intro i v u u' h hb
    match i, h with
    | 0, h => exact h
    | 1, h => exact h
    | 2, h => exact h
    | 3, h => exact h
    | 4, h => exact h
    | 5, h => exact by obtain ⟨g, c, h1, h2, h3⟩ := h; exact ⟨g, c, h1, h2, h3.below hb⟩
    | 6, h => exact by obtain ⟨g, c, h1, h2, h3⟩ := h; exact ⟨g, c, h1, h2, h3.below hb⟩
    | 7, h => exact by obtain ⟨b, h1, h2, h3⟩ := h; exact ⟨b, h1, h2, (hb.block _ (block_lt h3)).trans h3⟩
    | i + 8, _ => trivial
  · intro a' u hb _ hold
    exact ⟨⟨hold 2 (by decide), hold 3 (by decide)⟩, hb⟩
  · refine ⟨?_, ?_, ?_, ?_, ?_, ?_, ?_, ?_, trivial⟩
    · intro a' u hS hd
      clear hd
      have g0 := hS.1.1
      go_simp
      exact ⟨_, rfl, rfl, Below.refl _ _⟩
    · intro a' u hS hd
      obtain ⟨_, e0, rfl⟩ := hd 0 (by kernel_rfl)
      have f0 : a'.tmps[37]? = some _ := e0
      clear e0
      clear hd
      have x0 := keep_cell hS.2 x0
      go_simp
      exact ⟨_, rfl, rfl, Below.refl _ _⟩
    · intro a' u hS hd
      clear hd
      have g0 := hS.1.1
      go_simp
      exact ⟨_, rfl, rfl, Below.refl _ _⟩
    · intro a' u hS hd
      obtain ⟨_, e0, rfl⟩ := hd 2 (by kernel_rfl)
      have f0 : a'.tmps[39]? = some _ := e0
      clear e0
      clear hd
      have x0 := keep_cell hS.2 x1
      go_simp
      exact ⟨_, rfl, rfl, Below.refl _ _⟩
    · intro a' u hS hd
      clear hd
      have g0 := hS.1.2
      have x0 := keep_cell hS.2 x3
      go_simp
      exact ⟨_, rfl, rfl, Below.refl _ _⟩
    · intro a' u hS hd
      obtain ⟨_, e0, rfl⟩ := hd 4 (by kernel_rfl)
      have f0 : a'.tmps[41]? = some _ := e0
      clear e0
      clear hd
      go_simp
      refine (CC.out u hS.2).mono ?_
      rintro e u' ⟨g, c, rfl, hg, ho, hb⟩
      exact ⟨_, rfl, ⟨g, c, rfl, Nat.le_trans hS.2.size hg, World.ownsRow.mono ho hS.2.size⟩, hb⟩
    · intro a' u hS hd
      obtain ⟨_, e0, rfl⟩ := hd 1 (by kernel_rfl)
      obtain ⟨_, e1, rfl⟩ := hd 3 (by kernel_rfl)
      obtain ⟨_, e2, g, c, rfl, hg, ho⟩ := hd 5 (by kernel_rfl)
      have f0 : a'.tmps[38]? = some _ := e0
      have f1 : a'.tmps[40]? = some _ := e1
      have f2 : a'.tmps[42]? = some _ := e2
      have HO := Lib.hid ho
      clear hd e0 e1 e2 ho
      refine wp_built _ _ rfl [(0, .int .i64 W), (1, .int .i64 H), (2, .slice (some ⟨g, 0, none⟩) pn c)] #[.int .i64 W, .int .i64 H, .slice (some ⟨g, 0, none⟩) pn c, .slice none 0 0] (by simp [Act.eval, f0, f1, f2]) rfl ⟨_, rfl, ⟨g, c, rfl, hg, HO.out⟩, Below.refl _ _⟩
    · intro a' u hS hd
      clear hd
      go_simp
      exact ⟨_, rfl, ⟨_, rfl, hS.2.size, heap_alloc_new _ _⟩, (Below.refl _ _).alloc (Nat.le_refl _) _⟩
  · intro a' u h
    obtain ⟨_, e10, ob, rfl, hob, hoc⟩ := h.new 7 (by decide) (by decide +kernel)
    replace e10 : a'.tmps[10]? = some (.pointer (some ⟨ob, 0, none⟩)) := e10
    obtain ⟨_, e43, pg, pc, rfl, hpg, hpo⟩ := h.new 6 (by decide) (by decide +kernel)
    replace e43 : a'.tmps[43]? = some (.agg #[.int .i64 W, .int .i64 H, .slice (some ⟨pg, 0, none⟩) pn pc, .slice none 0 0]) := e43
    have e2 : a'.tmps[2]? = some (.pointer (some ⟨ib, 0, none⟩)) := h.old 2 (by decide)
    have e3 : a'.tmps[3]? = some (.pointer (some ⟨ib + 1, 0, none⟩)) := h.old 3 (by decide)
    have e4 : a'.tmps[4]? = some (.pointer (some ⟨ib + 1 + 1, 0, none⟩)) := h.old 4 (by decide)
    have e5 : a'.tmps[5]? = some (.int .i64 0) := h.old 5 (by decide)
    have e6 : a'.tmps[6]? = some (.pointer (some ⟨g, 0, none⟩)) := h.old 6 (by decide)
    have e8 : a'.tmps[8]? = some (.pointer (some ⟨nb, 0, none⟩)) := h.old 8 (by decide)
    have e9 : a'.tmps[9]? = some (.pointer (some ⟨nb + 1 + 1, 0, none⟩)) := h.old 9 (by decide)
    have hsz : a'.tmps.size = 81 := h.size
    have hdf : a'.defers = [] := h.defers
    have hbu := h.below
    clear h
    obtain ⟨tmps, defers⟩ := a'
    simp only at hsz hdf e2 e3 e4 e5 e6 e8 e9 e10 e43
    subst hdf
    obtain ⟨ll⟩ := tmps
    match ll, hsz with
    | y0 :: y1 :: y2 :: y3 :: y4 :: y5 :: y6 :: y7 :: y8 :: y9 :: y10 :: y11 :: y12 :: y13 :: y14 :: y15 :: y16 :: y17 :: y18 :: y19 :: y20 :: y21 :: y22 :: y23 :: y24 :: y25 :: y26 :: y27 :: y28 :: y29 :: y30 :: y31 :: y32 :: y33 :: y34 :: y35 :: y36 :: y37 :: y38 :: y39 :: y40 :: y41 :: y42 :: y43 :: y44 :: y45 :: y46 :: y47 :: y48 :: y49 :: y50 :: y51 :: y52 :: y53 :: y54 :: y55 :: y56 :: y57 :: y58 :: y59 :: y60 :: y61 :: y62 :: y63 :: y64 :: y65 :: y66 :: y67 :: y68 :: y69 :: y70 :: y71 :: y72 :: y73 :: y74 :: y75 :: y76 :: y77 :: y78 :: y79 :: y80 :: [], _ =>
      obtain rfl : y2 = .pointer (some ⟨ib, 0, none⟩) := by simpa using e2
      obtain rfl : y3 = .pointer (some ⟨ib + 1, 0, none⟩) := by simpa using e3
      obtain rfl : y4 = .pointer (some ⟨ib + 1 + 1, 0, none⟩) := by simpa using e4
      obtain rfl : y5 = .int .i64 0 := by simpa using e5
      obtain rfl : y6 = .pointer (some ⟨g, 0, none⟩) := by simpa using e6
      obtain rfl : y8 = .pointer (some ⟨nb, 0, none⟩) := by simpa using e8
      obtain rfl : y9 = .pointer (some ⟨nb + 1 + 1, 0, none⟩) := by simpa using e9
      obtain rfl : y10 = .pointer (some ⟨ob, 0, none⟩) := by simpa using e10
      obtain rfl : y43 = .agg #[.int .i64 W, .int .i64 H, .slice (some ⟨pg, 0, none⟩) pn pc, .slice none 0 0] := by simpa using e43
      clear e2 e3 e4 e5 e6 e8 e9 e10 e43
      have HPO := Lib.hid hpo
      have HOC := Lib.hid hoc
      have HBU := Lib.hid hbu
      clear hpo hoc hbu x0 x1 x3 CC
      refine wpList_store_row rfl 40 _ _ rfl ob #[.int .i64 W, .int .i64 H, .slice (some ⟨pg, 0, none⟩) pn pc, .slice none 0 0] rfl rfl 40 _ HOC.out (palSize4 _ _ _ _) rfl (by simp [Value.oneCell']) ?_
      have hg5 := grownBy_setRow u ob #[.int .i64 W, .int .i64 H, .slice (some ⟨pg, 0, none⟩) pn pc, .slice none 0 0]
      have ho5 := setRow_heap u ob _ #[.int .i64 W, .int .i64 H, .slice (some ⟨pg, 0, none⟩) pn pc, .slice none 0 0] _ _ HOC.out
      have hB35 : Below w3.heap.size w3 (u.setRow ob #[.int .i64 W, .int .i64 H, .slice (some ⟨pg, 0, none⟩) pn pc, .slice none 0 0]) := below_setRow HBU.out hob _
      have hp5 : OwnC w3.heap.size (u.setRow ob #[.int .i64 W, .int .i64 H, .slice (some ⟨pg, 0, none⟩) pn pc, .slice none 0 0]) (.slice (some ⟨pg, 0, none⟩) pn pc) P := World.ownsRow.kept HPO.out hg5 (.inr fun e => own_ne HPO.out HOC.out (by decide) e.symm)
      clear hg5
      generalize u.setRow ob #[.int .i64 W, .int .i64 H, .slice (some ⟨pg, 0, none⟩) pn pc, .slice none 0 0] = w5 at *
      have HO5 := Lib.hid ho5
      have HB35 := Lib.hid hB35
      have HP5 := Lib.hid hp5
      have F1 := Lib.hid ((hB35.block _ (block_lt HB.out)).trans HB.out)
      have F2 := Lib.hid ((hB35.block _ (block_lt HC.out)).trans HC.out)
      have F3 := Lib.hid ((hB35.block _ (block_lt N1.out)).trans N1.out)
      have F4 := Lib.hid ((hB35.block _ (block_lt N2.out)).trans N2.out)
      have F5 := Lib.hid ((hB35.block _ (block_lt N3.out)).trans N3.out)
      have HGR5 := Lib.hid (HGR.out.below hB35)
      have hob5 : ob < w5.heap.size := block_lt ho5
      have HBw5 := Lib.hid (HBw3.out.trans (hB35.mono HBw3.out.size))
      clear ho5 hB35 hp5 HPO HOC HBU HB HC N1 N2 N3 HGR HBw3 HA
      go_wp2_with fail
      refine (all_any g w5).mono ?_
      rintro e w6 ⟨rfl, rfl⟩
      have b6 := heap_alloc_new w5 (.cells #[.pointer (some ⟨g, 0, none⟩)] 70)
      have hB6 : Below w5.heap.size w5 (w5.alloc (.cells #[.pointer (some ⟨g, 0, none⟩)] 70)) := (Below.refl _ _).alloc (Nat.le_refl _) _
      have hs6 : (w5.alloc (.cells #[.pointer (some ⟨g, 0, none⟩)] 70)).heap.size = w5.heap.size + 1 := by simp
      obtain ⟨bx, hbx⟩ : ∃ b, w5.heap.size = b := ⟨_, rfl⟩
      rw [hbx] at b6 hs6 hob5 ⊢
      have HBX := Lib.hid hbx
      clear hbx
      go_wp2_with fail
      generalize w5.alloc (.cells #[.pointer (some ⟨g, 0, none⟩)] 70) = w6 at *
      refine (wpIn_wide (n := 6)).1 ?_
      have G0 := Lib.hid ((hB6.block _ (block_lt HO5.out)).trans HO5.out)
      have G1 := Lib.hid ((hB6.block _ (block_lt F1.out)).trans F1.out)
      have G2 := Lib.hid ((hB6.block _ (block_lt F2.out)).trans F2.out)
      have G3 := Lib.hid ((hB6.block _ (block_lt F3.out)).trans F3.out)
      have G4 := Lib.hid ((hB6.block _ (block_lt F4.out)).trans F4.out)
      have G5 := Lib.hid ((hB6.block _ (block_lt F5.out)).trans F5.out)
      have hGR6 := HGR5.out.below hB6
      have HGR6 := Lib.hid hGR6
      have HP6 := Lib.hid (HP5.out.below hB6)
      have HBw6 := Lib.hid (HBw5.out.trans (hB6.mono HBw5.out.size))
      have B6 := Lib.hid b6
      have HS6 := Lib.hid hs6
      obtain ⟨_, ccur, hcc, _⟩ := RowC.block (t := cols l N) hGR6.cells
      have HCC := Lib.hid hcc
      clear b6 hs6 hGR6 hB6 hcc HO5 F1 F2 F3 F4 F5 HGR5 HP5 HBw5
      have hgl : g < w6.heap.size := block_lt HGR6.out.head
      have hcl : cb < w6.heap.size := block_lt HCC.out
      have hnb : nb + 1 + 1 < w6.heap.size := block_lt G5.out
      have hib : ib + 1 + 1 < w6.heap.size := block_lt G2.out
      have hpg6 : pg < w6.heap.size := (World.ownsRow.lt HP6.out pg rfl).2
      have hob6 : ob < w6.heap.size := block_lt G0.out
      have hbx6 : bx < w6.heap.size := block_lt B6.out
      obtain ⟨fix, hfx⟩ : ∃ x : List (Nat × Array Value × TypeId), x = [(ib + 1, #[.slice (some ⟨qb, qo, none⟩) pn qc], 34), (nb, #[.int .i64 z], 3), (nb + 1 + 1, #[.map (some (nb + 1))], 75), (bx, #[.pointer (some ⟨g, 0, none⟩)], 70), (g, #[.int .i64 W, .int .i64 H, .slice (some ⟨cb, 0, none⟩) (cols l N).length cc], 138), (cb, ccur, 38), (ib + 1 + 1, #[.int .i64 0, .int .i64 0, .slice none 0 0, .slice none 0 0], 40)] := ⟨_, rfl⟩
      have HFX := Lib.hid hfx
      have hw3 : w.heap.size ≤ nb := by have h1 := HNB.out; have h2 := HBw1.out.size; have h3 := HB2.out.size; omega
      have hw33 : w3.heap.size = nb + 1 + 1 + 1 := HS3.out
      have hib3 : ib + 1 + 1 < nb := by have h1 := HB1.out.size; have h2 := HB2.out.size; have h3 := HS0.out; have h4 := HNB.out; omega
      have hA : ApAt w w6.heap.size fix ob (nb + 1) (.slice (some ⟨pg, 0, none⟩) pn pc) := by
        refine ⟨fun p hp => ?_, ⟨by omega, hob6⟩, ⟨by omega, by omega⟩, fun r e => by cases e; exact hpg6⟩
        rw [hfx] at hp
        have hgb := HGR6.out.lies
        simp only [List.mem_cons, List.not_mem_nil, or_false] at hp
        have g0 := G0.out
        rcases hp with rfl | rfl | rfl | rfl | rfl | rfl | rfl <;> dsimp only <;> refine ⟨by omega, ?_⟩
        · omega
        · omega
        · omega
        · omega
        · intro e; have h5 := HGR6.out.head; rw [e, g0] at h5; simp at h5
        · intro e; have := HCC.out; rw [e, g0] at this; simp at this
        · omega
      have HAA := Lib.hid hA
      have hI0 : ApI w w6.heap.size fix ob (nb + 1) w3.heap.size W H (.slice (some ⟨pg, 0, none⟩) pn pc) P 0 (idxs P z []) w6 := by
        refine ⟨fun p hp => ?_, ⟨_, G0.out, World.ownsRow_nil _ _ _ _⟩, HP6.out, ⟨0, _, mapC_none G4.out, Nat.le_refl _, fun _ _ _ e => by cases e⟩, HBw6.out⟩
        rw [hfx] at hp
        simp only [List.mem_cons, List.not_mem_nil, or_false] at hp
        rcases hp with rfl | rfl | rfl | rfl | rfl | rfl | rfl
        · exact G1.out
        · exact G3.out
        · exact G5.out
        · exact B6.out
        · exact HGR6.out.head
        · exact HCC.out
        · exact G2.out
      have HI0 := Lib.hid hI0
      clear hA hI0 hfx G0 G1 G2 G3 G4 G5
      have hcN : (cols l N).length = N := by simp [cols]
      have HCN := Lib.hid hcN
      refine wpIn_rangeFunc_ownH rfl (by omega) (gf := 67) (lb := #[.pointer (some ⟨bx, 0, none⟩)]) rfl trivial (enters_of Tryz.func67 (by kernel_rfl) rfl)
        (all_stops 5 bx g cb cc N W H (cols l N) HCN.out HNW.out hW1 hN6 w6 B6.out w0.heap.size HGR6.out) (fun h k => h.trans k) (KeepsL.put (fun j hj => by simp only [List.mem_cons, List.not_mem_nil, or_false] at hj; rcases hj with rfl | rfl | rfl <;> assumption)) (Below.refl _ _) (fun _ => rfl)
        (fun pre W1 => ApI w w6.heap.size fix ob (nb + 1) w3.heap.size W H (.slice (some ⟨pg, 0, none⟩) pn pc) P pre.length (idxs P z (seenC (cols l N) pre)) W1)
        (fun _ _ _ => False)
        (fun s A B row hs hg hr => hs.own (Nat.le_refl _) HAA.out hg hr)
        (fun _ _ _ _ _ hs _ _ => hs)
        HI0.out
        (fun x a' W1 => ∃ q, w6.heap.size ≤ q ∧ a' = { tmps := ⟨y0 :: y1 :: .pointer (some ⟨ib, 0, none⟩) :: .pointer (some ⟨ib + 1, 0, none⟩) :: .pointer (some ⟨ib + 1 + 1, 0, none⟩) :: .int .i64 0 :: .pointer (some ⟨g, 0, none⟩) :: y7 :: .pointer (some ⟨nb, 0, none⟩) :: .pointer (some ⟨nb + 1 + 1, 0, none⟩) :: .pointer (some ⟨ob, 0, none⟩) :: y11 :: .pointer (some ⟨q, 0, none⟩) :: y13 :: y14 :: y15 :: y16 :: y17 :: y18 :: y19 :: y20 :: y21 :: y22 :: y23 :: y24 :: y25 :: y26 :: y27 :: y28 :: y29 :: y30 :: y31 :: y32 :: y33 :: y34 :: y35 :: y36 :: y37 :: y38 :: y39 :: y40 :: y41 :: y42 :: .agg #[.int .i64 W, .int .i64 H, .slice (some ⟨pg, 0, none⟩) pn pc, .slice none 0 0] :: .pointer (some ⟨g, 0, none⟩) :: .func (.func 67) #[] #[.pointer (some ⟨bx, 0, none⟩)] :: .agg #[.int .i64 ((x.1 : Int) % W), .int .i64 ((x.1 : Int) / W)] :: ((cols l N).getD x.1 ⟨0, 0, 0, 0⟩).val :: y48 :: y49 :: y50 :: y51 :: y52 :: y53 :: y54 :: y55 :: y56 :: y57 :: y58 :: y59 :: y60 :: y61 :: y62 :: y63 :: y64 :: y65 :: y66 :: y67 :: y68 :: y69 :: y70 :: y71 :: y72 :: y73 :: y74 :: y75 :: y76 :: y77 :: y78 :: y79 :: y80 :: []⟩, defers := [] } ∧ W1.heap[q]? = some (.cells #[.int .u16 ((cols l N).getD x.1 ⟨0, 0, 0, 0⟩).r, .int .u16 ((cols l N).getD x.1 ⟨0, 0, 0, 0⟩).g, .int .u16 ((cols l N).getD x.1 ⟨0, 0, 0, 0⟩).b, .int .u16 ((cols l N).getD x.1 ⟨0, 0, 0, 0⟩).a] 38 (0, 0)))
        (fun x a' s A B row hs hg hr => by obtain ⟨q, h1, h2, h3⟩ := hs; exact ⟨q, h1, h2, own_heap hg (fun r e => (hr r e).2) h3⟩) ?assign ?body ?done ?stop
      case assign =>
        intro lr pre x W1 K hI hK
        have HI := Lib.hid hI
        have HKK := Lib.hid hK
        clear hI hK
        obtain ⟨cv, hcv⟩ : ∃ c : C4, (cols l N).getD x.1 ⟨0, 0, 0, 0⟩ = c := ⟨_, rfl⟩
        unfold gridEnc
        rw [hcv] at HKK ⊢
        clear hcv
        unfold C4.val
        gi_wp2
        have hL := ApI.lt HFX.out HI.out
        refine HKK.out _ _ ((keepsOthers_below ((Below.refl _ _).alloc (Nat.le_refl _) _)).from _) (KeepsL.below hL ((Below.refl _ _).alloc (Nat.le_refl _) _)) (HI.out.at_below HAA.out ((Below.refl _ _).alloc (Nat.le_refl _) _)) ⟨W1.heap.size, ?_, rfl, heap_alloc_new _ _⟩
        have := hL bx (by simp)
        have := HS6.out
        omega
      case body =>
        rintro lr pre ⟨xi, hxi⟩ a' W1 hl ⟨rl, hrl⟩ hI ⟨q, hq, rfl, hqc⟩ hlen
        dsimp only at hqc ⊢
        have hcok : ((cols l N).getD xi ⟨0, 0, 0, 0⟩).ok := by
          have h1 := (HS.out.u16s).pix xi
          have h2 : (cols l N).getD xi ⟨0, 0, 0, 0⟩ = pix l xi := by simp [cols, hxi]
          rw [h2]
          exact h1
        obtain ⟨cv, hcv⟩ : ∃ c : C4, (cols l N).getD xi ⟨0, 0, 0, 0⟩ = c := ⟨_, rfl⟩
        rw [hcv] at hqc hcok ⊢
        have HI := Lib.hid hI
        have HCV := Lib.hid hcv
        have HQC := Lib.hid hqc
        clear hl hrl hI hcv hqc
        unfold C4.val
        have hq0 := (cell_of_row W1 _ 0 _ _ (0, 0) HQC.out).trans (show _ = some (Value.int .u16 cv.r) from rfl)
        have hq1 := (cell_of_row W1 _ 1 _ _ (0, 0) HQC.out).trans (show _ = some (Value.int .u16 cv.g) from rfl)
        have hq2 := (cell_of_row W1 _ 2 _ _ (0, 0) HQC.out).trans (show _ = some (Value.int .u16 cv.b) from rfl)
        have hq3 := (cell_of_row W1 _ 3 _ _ (0, 0) HQC.out).trans (show _ = some (Value.int .u16 cv.a) from rfl)
        have hz0 : W1.cell? ⟨nb, 0, none⟩ = some (.int .i64 z) := (cell_of_row W1 _ 0 _ _ (0, 0) (HI.out.fix (nb, #[.int .i64 z], 3) (by rw [HFX.out]; simp))).trans rfl
        gi_upto_region 12 with (fail)
        gi_cut [55] from 49 (fun s55 wx => s55 = .bool (decide (¬ (0 ≤ z ∧ cv.a < 32768))) ∧ Below W1.heap.size W1 wx)
        case first =>
          by_cases hz : z < 0
          · have hd : decide (¬ (0 ≤ z ∧ cv.a < 32768)) = true := decide_eq_true (by omega)
            have HD := Lib.hid hd
            clear hd
            gi_wp2
            refine ⟨trivial, ?_⟩
            gi_wp2
            gi_meet
            exact ⟨by rw [HD.out], Below.refl _ _⟩
          · have HZ0 := Lib.hid hz
            gi_wp2
            refine round_call ?_
            refine (clear_any cv W1).mono ?_
            rintro e w2 ⟨rfl, hb2⟩
            have HB2 := Lib.hid hb2
            clear hb2
            gi_wp2
            gi_meet
            exact ⟨by have h0 := HZ0.out; by_cases h : cv.a < 32768 <;> simp [h] <;> omega, HB2.out⟩
        case rest =>
          obtain ⟨rfl, hb2⟩ := hcut
          have HIc := Lib.hid (HI.out.at_below HAA.out hb2)
          have HKF := Lib.hid ((keepsOthers_below hb2).from w6.heap.size)
          have HQ2 := Lib.hid ((hb2.block _ (block_lt HQC.out)).trans HQC.out)
          clear hb2 hq0 hq1 hq2 hq3 hz0
          gi_upto_if 55 with (fail)
          gi_cut [13] from 49 (fun s13 wx => s13 = .int .i64 (idxOf P z cv) ∧ ApI w w6.heap.size fix ob (nb + 1) w3.heap.size W H (.slice (some ⟨pg, 0, none⟩) pn pc) P (pre.length + 1) (idxs P z (seenC (cols l N) pre)) wx ∧ KeepsFrom w6.heap.size W1 wx)
          case first =>
            by_cases hzc : 0 ≤ z ∧ cv.a < 32768
            · have HI1 : Hid (idxOf P z cv = z) := Lib.hid (by unfold idxOf; rw [if_pos hzc])
              rw [decide_eq_false (fun h => h hzc)]
              gi_wp2
              gi_meet
              exact ⟨by rw [HI1.out], HIc.out.weak, HKF.out⟩
            · have HI1 : Hid (idxOf P z cv = near P cv.eight P.length) := Lib.hid (by unfold idxOf; rw [if_neg hzc])
              rw [decide_eq_true hzc]
              have hr0 := (cell_of_row wc _ 0 _ _ (0, 0) HQ2.out).trans (show _ = some (Value.int .u16 cv.r) from rfl)
              have hr1 := (cell_of_row wc _ 1 _ _ (0, 0) HQ2.out).trans (show _ = some (Value.int .u16 cv.g) from rfl)
              have hr2 := (cell_of_row wc _ 2 _ _ (0, 0) HQ2.out).trans (show _ = some (Value.int .u16 cv.b) from rfl)
              have hr3 := (cell_of_row wc _ 3 _ _ (0, 0) HQ2.out).trans (show _ = some (Value.int .u16 cv.a) from rfl)
              clear hzc
              gi_upto_region 13 with (fail)
              refine round_region (by rintro ⟨_, _, h⟩; exact h) (by kernel_rfl) ?_
              go_wp2_with fail
              refine (eight_any cv hcok wc).mono ?_
              rintro e w2 ⟨rfl, hb2⟩
              have HQ3 := Lib.hid ((hb2.block _ (block_lt HQ2.out)).trans HQ2.out)
              have HB2 := Lib.hid hb2
              clear hb2 hr0 hr1 hr2 hr3
              obtain ⟨ce, hce⟩ : ∃ c : C4, cv.eight = c := ⟨_, rfl⟩
              have hceok : ce.ok := by rw [← hce]; exact C4.eight_ok hcok
              rw [hce] at HI1 ⊢
              clear hce
              go_upto_region 14 with (refine wpList_store_row rfl 38 _ _ rfl q #[.int .u16 ce.r, .int .u16 ce.g, .int .u16 ce.b, .int .u16 ce.a] rfl rfl 38 _ HQ3.out (colSize4 _ _ _ _) rfl (colOne _ _ _ _) ?_)
              have hIk := (HIc.out.at_below HAA.out HB2.out).setRow (cs := #[.int .u16 ce.r, .int .u16 ce.g, .int .u16 ce.b, .int .u16 ce.a]) HAA.out hq HQ3.out
              have hKk := (HKF.out.trans ((keepsOthers_below HB2.out).from _)).trans ((keeps_setRow (cs := #[.int .u16 ce.r, .int .u16 ce.g, .int .u16 ce.b, .int .u16 ce.a]) HQ3.out).from _)
              have hQk := setRow_heap w2 q _ #[.int .u16 ce.r, .int .u16 ce.g, .int .u16 ce.b, .int .u16 ce.a] _ _ HQ3.out
              generalize w2.setRow q #[.int .u16 ce.r, .int .u16 ce.g, .int .u16 ce.b, .int .u16 ce.a] = wk at *
              have HIK := Lib.hid hIk
              have HKK := Lib.hid hKk
              have hs0 := (cell_of_row wk _ 0 _ _ (0, 0) hQk).trans (show _ = some (Value.int .u16 ce.r) from rfl)
              have hs1 := (cell_of_row wk _ 1 _ _ (0, 0) hQk).trans (show _ = some (Value.int .u16 ce.g) from rfl)
              have hs2 := (cell_of_row wk _ 2 _ _ (0, 0) hQk).trans (show _ = some (Value.int .u16 ce.b) from rfl)
              have hs3 := (cell_of_row wk _ 3 _ _ (0, 0) hQk).trans (show _ = some (Value.int .u16 ce.a) from rfl)
              have hmbx : wk.cell? ⟨nb + 1 + 1, 0, none⟩ = some (.map (some (nb + 1))) := (cell_of_row wk _ 0 _ _ (0, 0) (hIk.fix (nb + 1 + 1, #[.map (some (nb + 1))], 75) (by rw [HFX.out]; simp))).trans rfl
              have hpal : wk.cell? ⟨ib + 1, 0, none⟩ = some (.slice (some ⟨qb, qo, none⟩) pn qc) := (cell_of_row wk _ 0 _ _ (0, 0) (hIk.fix (ib + 1, #[.slice (some ⟨qb, qo, none⟩) pn qc], 34) (by rw [HFX.out]; simp))).trans rfl
              obtain ⟨cnt, f, ⟨D, hown, hD⟩, hcnt, hf⟩ := hIk.map
              have HOWN := Lib.hid hown
              have HD := Lib.hid hD
              have HCNT := Lib.hid hcnt
              have HF := Lib.hid hf
              have hkey := keyOf_col ce hceok
              have hDx := hD ce hceok
              clear hIk hKk hQk HQ3 HQ2 HB2 HIc HKF hcnt hD hf
              cases hfc : f ce with
              | some k =>
                rw [hfc] at hDx
                obtain ⟨hhas, hat'⟩ := hDx
                have HH := Lib.hid hhas
                have HAT := Lib.hid hat'
                have HFC := Lib.hid hfc
                clear hhas hat' hfc
                gi_upto_region 14 with (fail)
                refine round_region (by rintro ⟨_, _, h⟩; exact h) (by kernel_rfl) ?_
                go_wp2_with (at_lookup; go_must (refine wpList_lookup_own_ok_int _ rfl _ _ 75 rfl 38 3 .i64 law_col Tryz.underlying75 Tryz.underlying3 (zeroI64 _) (nb + 1) cnt D rfl hown _ _ rfl hkey ?_; intro c2 hat hwc; rw [HH.out]; rw [HAT.out] at hat; injection hat with hat; injection hat with _ hat; subst hat))
                gi_wp2
                gi_meet
                exact ⟨by rw [HI1.out, ← HF.out ce k hceok HFC.out], HIK.out.weak, HKK.out⟩
              | none =>
                rw [hfc] at hDx
                have HH := Lib.hid hDx
                have HFC := Lib.hid hfc
                clear hDx hfc hown
                have CN := nearest_any (some ⟨qb, qo, none⟩) pn qc P ce wk HPN.out (by unfold maxLen; omega) HOK.out hceok (HRD.out.below HIK.out.below)
                have HCNN := Lib.hid CN
                clear CN
                gi_upto_region 14 with (fail)
                refine round_region (by rintro ⟨_, _, h⟩; exact h) (by kernel_rfl) ?_
                go_wp2_with (at_lookup; go_must (refine wpList_lookup_own_ok_int _ rfl _ _ 75 rfl 38 3 .i64 law_col Tryz.underlying75 Tryz.underlying3 (zeroI64 _) (nb + 1) cnt D rfl HOWN.out _ _ rfl hkey ?_; intro c2 hat hwc; rw [HH.out]; clear hat))
                gi_upto_region 16 with (fail)
                refine round_region (by rintro ⟨_, _, h⟩; exact h) (by kernel_rfl) ?_
                go_wp2_with fail
                refine HCNN.out.mono ?_
                rintro e w4 ⟨rfl, hb4⟩
                have HI4 := Lib.hid (HIK.out.at_below HAA.out hb4)
                have HK4 := Lib.hid (HKK.out.trans ((keepsOthers_below hb4).from _))
                have ht0 := keep_cell hb4 hs0
                have ht1 := keep_cell hb4 hs1
                have ht2 := keep_cell hb4 hs2
                have ht3 := keep_cell hb4 hs3
                have hmb4 := keep_cell hb4 hmbx
                have hown4 : w4.ownsMap Tryz.prog 38 (plainElem Tryz.prog 3) (nb + 1) cnt D := by
                  obtain ⟨es, ck, h1, h2⟩ := HOWN.out
                  exact ⟨es, ck, (hb4.block _ (block_lt h1)).trans h1, h2⟩
                have HIS := Lib.hid (show IsMap D by obtain ⟨es, ck, _, _, _, e⟩ := hown4; exact ⟨_, e⟩)
                have hnr := near_range P ce pn
                obtain ⟨nk, hnk⟩ : ∃ k, near P ce pn = k := ⟨_, rfl⟩
                rw [hnk] at hnr ⊢
                have HNK := Lib.hid hnk
                have hwf : (Lit.int .i64 nk).wf = true := by simp [Lit.wf, IntKind.min, IntKind.max, IntKind.bits, IntKind.signed]; omega
                have hcm : cnt < maxLen := by have := HCNT.out; unfold maxLen; omega
                clear hb4 hs0 hs1 hs2 hs3 hmbx HIK HKK HCNN hnk
                go_upto_region 17 with (fail)
                gi_upto_region 17 with (fail)
                refine round_region (by rintro ⟨_, _, h⟩; exact h) (by kernel_rfl) ?_
                go_wp2_with (at_mapUpdate; go_must (refine wpList_mapUpdate_own _ rfl _ _ _ 75 rfl 38 3 law_col Tryz.underlying75 _ (nb + 1) cnt _ rfl hown4 hcm _ _ _ rfl rfl hkey _ [] (plainElem_int Tryz.underlying3 hwf) ?_; intro w5 hown5 hg5; have HW5 := Lib.hid hown5; have HG5 := Lib.hid hg5; clear hown5 hg5))
                gi_wp2
                gi_meet
                refine ⟨by rw [HI1.out, HPN.out, HNK.out], HI4.out.mapped HAA.out HG5.out (mapC_put hceok HD.out HIS.out HW5.out) (Nat.succ_le_succ HCNT.out) ?_, HK4.out.trans (KeepsFrom.of_grownBy HG5.out (fun j e => by cases e; exact HAA.out.m.2))⟩
                intro c k hc hk
                by_cases hcc : c = ce
                · subst hcc
                  rw [if_pos rfl] at hk
                  cases hk
                  rw [HPN.out, HNK.out]
                · rw [if_neg hcc] at hk
                  exact HF.out c k hc hk
          case rest =>
            obtain ⟨rfl, hI', hK'⟩ := hcut
            have HK' := Lib.hid hK'
            have HI' := Lib.hid hI'
            obtain ⟨vi, hbo, hrow⟩ := hI'.out
            have HBO := Lib.hid hbo
            have HROW := Lib.hid hrow
            have hix : 0 ≤ idxOf P z cv ∧ idxOf P z cv < 256 := by
              have h1 := near_range P cv.eight P.length
              have h2 := HPN.out
              unfold idxOf
              split
              · rcases HZ.out with ⟨h3, _⟩ | ⟨j, c, h3, h4, _⟩
                · omega
                · have := (List.getElem?_eq_some_iff.1 h4).1
                  omega
              · omega
            obtain ⟨ix, hixe⟩ : ∃ k, idxOf P z cv = k := ⟨_, rfl⟩
            rw [hixe] at hix ⊢
            have HIX := Lib.hid hixe
            have hvi := (cell_of_row wc _ 3 _ _ (0, 0) hbo).trans (show _ = some vi from rfl)
            have hwx : IntKind.u8.wrap ix = ix := by rw [IntKind.wrap_u8]; omega
            obtain ⟨h1x, h2x⟩ := hix
            clear hI' hK' hbo hrow hixe HQC HQ2 HIc HKF
            have S0 := sl_bytes wc [ix] 5 (0, 0) _ rfl (by simp [maxLen]) (by intro x hx; rw [List.mem_singleton.1 hx]; simp [Lit.wf, IntKind.min, IntKind.max, IntKind.bits, IntKind.signed]; omega)
            have S0' := Lib.hid S0
            have hb7 : Below wc.heap.size wc (wc.alloc (.cells #[.int .u8 ix] 5)) := (Below.refl _ _).alloc (Nat.le_refl _) _
            have HB7 := Lib.hid hb7
            have HI7 := Lib.hid (HI'.out.at_below HAA.out hb7)
            have HR7 := Lib.hid (ownsRow_below HROW.out hb7)
            have HO7 := Lib.hid ((hb7.block _ (block_lt HBO.out)).trans HBO.out)
            have HB6L : Hid (w6.heap.size ≤ (wc.alloc (.cells #[.int .u8 ix] 5)).heap.size) := Lib.hid (by
              have h1 := ApI.lt HFX.out HI'.out bx (by simp)
              have h2 := hb7.size
              have h3 := HS6.out
              omega)
            have HIL : Hid ((idxs P z (seenC (cols l N) pre)).length ≤ 65536) := Lib.hid (by rw [idxs_length]; simp only [seenC, List.length_map]; omega)
            have HKL := Lib.hid (ApI.lt HFX.out HI'.out)
            clear S0 hb7
            gi_upto_region 19 with (fail)
            refine round_region (by rintro ⟨_, _, h⟩; exact h) (by kernel_rfl) ?_
            go_wp2_with (at_builtin; go_must (refine wpList_of_append rfl (.tmp 74) (.tmp 77) 26 26 rfl (run_append_sl_at _ _ w6.heap.size vi _ (idxs P z (seenC (cols l N) pre)) HR7.out ⟨wc.heap.size, 0, none⟩ 1 1 [ix] S0'.out (by have := HIL.out; omega) HB6L.out) ?_; rintro v9 w9 ⟨⟨ho9, hg9⟩, hv9⟩; rw [show (idxs P z (seenC (cols l N) pre)).length + 1 = (idxs P z (seenC (cols l N) pre) ++ [ix]).length by simp] at ho9; obtain ⟨b9, c9, e9, _⟩ := own_form ho9 (by simp); subst e9; have hIS := HI7.out.app HAA.out HO7.out hg9 ho9; rw [show (idxs P z (seenC (cols l N) pre) ++ [ix]).length = (idxs P z (seenC (cols l N) pre)).length + 1 by simp] at hIS; have HIS := Lib.hid hIS; have kk := (cell_of_row _ _ 3 _ _ (0, 0) hIS.1).trans (show _ = some vi from rfl); have kf := frozen_of_row _ _ 3 _ _ hIS.1; clear hIS ho9 hg9 hv9))
            refine ⟨(HK'.out.trans ((keepsOthers_below HB7.out).from _)).trans (HIS.out.2.2.from _), ?_, ?_⟩
            · exact ApI.keepsL HFX.out HI.out HIS.out.2.1
            · show ApI w w6.heap.size fix ob (nb + 1) w3.heap.size W H _ P (pre ++ [(⟨xi, hxi⟩ : GIx N)]).length (idxs P z (seenC (cols l N) (pre ++ [(⟨xi, hxi⟩ : GIx N)]))) _
              rw [seenC_snoc, idxs_snoc, HCV.out, HIX.out, List.length_append]
              exact HIS.out.2.1
      case done =>
        rintro D ys W1 hD ⟨hS1, hS2⟩ hI hK
        rw [seenC_all HCN.out hS1 hS2] at hI
        obtain ⟨vi, hbo, hrow⟩ := hI.out
        obtain ⟨b9, c9, e9, _⟩ := own_form hrow (by rw [idxs_length, HCN.out]; have h1 := sides_mul HG.out.1 HG.out.2.1 HG.out.2.2.1 HG.out.2.2.2.1; have h2 := HNW.out; omega)
        subst e9
        have HI := Lib.hid hI
        have HK := Lib.hid hK
        have ko0 := (cell_of_row _ _ 0 _ _ (0, 0) hbo).trans (show _ = some (Value.int .i64 W) from rfl)
        have ko1 := (cell_of_row _ _ 1 _ _ (0, 0) hbo).trans (show _ = some (Value.int .i64 H) from rfl)
        have ko2 := (cell_of_row _ _ 2 _ _ (0, 0) hbo).trans (show _ = some (Value.slice (some ⟨pg, 0, none⟩) pn pc) from rfl)
        have ko3 := (cell_of_row _ _ 3 _ _ (0, 0) hbo).trans (show _ = some (Value.slice (some ⟨b9, 0, none⟩) _ c9) from rfl)
        have hrc : W1.heap[ib + 1 + 1]? = some (.cells #[.int .i64 0, .int .i64 0, .slice none 0 0, .slice none 0 0] 40 (0, 0)) := hI.fix (ib + 1 + 1, #[.int .i64 0, .int .i64 0, .slice none 0 0, .slice none 0 0], 40) (by rw [HFX.out]; simp)
        have HRC := Lib.hid hrc
        have HROW := Lib.hid hrow
        clear hS1 hS2 hI hK hbo hrow hrc
        go_wp2_with (refine wpList_store_row rfl 40 _ _ rfl (ib + 1 + 1) #[.int .i64 W, .int .i64 H, .slice (some ⟨pg, 0, none⟩) pn pc, .slice (some ⟨b9, 0, none⟩) (idxs P z (cols l N)).length c9] rfl rfl 40 _ HRC.out (palSize4 _ _ _ _) rfl (by simp [Value.oneCell']) ?_)
        have hibw : ib = w.heap.size := HIB.out.symm
        have hD2 : ib + 1 + 1 < D := by omega
        have hK' := (setRow_other W1 (ib + 1 + 1) D #[.int .i64 W, .int .i64 H, .slice (some ⟨pg, 0, none⟩) pn pc, .slice (some ⟨b9, 0, none⟩) (idxs P z (cols l N)).length c9] (by omega)).trans HK.out
        refine ⟨by simp, .inl ⟨_, _, rfl, run_takeDeferred hK', ?_⟩⟩
        have hr1 := own_row (grownBy_putObj' _ D (.deferred none)) (fun r e => by cases e; exact ⟨_, hK', rfl⟩) (World.ownsRow.kept HROW.out (grownBy_setRow W1 (ib + 1 + 1) #[.int .i64 W, .int .i64 H, .slice (some ⟨pg, 0, none⟩) pn pc, .slice (some ⟨b9, 0, none⟩) (idxs P z (cols l N)).length c9]) (.inr (by intro e; have h9 : b9 = ib + 1 + 1 := Option.some.inj e; have := (World.ownsRow.lt HROW.out b9 rfl).1; omega)))
        have hr2 := own_row (grownBy_putObj' _ D (.deferred none)) (fun r e => by cases e; exact ⟨_, hK', rfl⟩) (World.ownsRow.kept HI.out.pal (grownBy_setRow W1 (ib + 1 + 1) #[.int .i64 W, .int .i64 H, .slice (some ⟨pg, 0, none⟩) pn pc, .slice (some ⟨b9, 0, none⟩) (idxs P z (cols l N)).length c9]) (.inr (by intro e; have h9 : pg = ib + 1 + 1 := Option.some.inj e; have := (World.ownsRow.lt HI.out.pal pg rfl).1; omega)))
        have hne : ib + 1 + 1 ≠ D := by omega
        have hpo : ((W1.setRow (ib + 1 + 1) #[.int .i64 W, .int .i64 H, .slice (some ⟨pg, 0, none⟩) pn pc, .slice (some ⟨b9, 0, none⟩) (idxs P z (cols l N)).length c9]).putObj D (.deferred none)).heap[ib + 1 + 1]? = some (.cells #[.int .i64 W, .int .i64 H, .slice (some ⟨pg, 0, none⟩) pn pc, .slice (some ⟨b9, 0, none⟩) (idxs P z (cols l N)).length c9] 40) := (World.putObj_heap_other hne).trans (setRow_heap W1 (ib + 1 + 1) _ #[.int .i64 W, .int .i64 H, .slice (some ⟨pg, 0, none⟩) pn pc, .slice (some ⟨b9, 0, none⟩) (idxs P z (cols l N)).length c9] _ _ HRC.out)
        refine ⟨_, results_cell_tmp (p := 4) (q := 5) (ty := 40) rfl _ _ (ib + 1 + 1) 40 _ (0, 0) _ _ rfl rfl hpo Tryz.underlying40 rfl (palSize4 _ _ _ _), z, _, _, HZ.out, rfl, World.ownsRow.mono hr2 (by omega), ?_, take_deferred_below (by omega) (Nat.le_refl _) (below_setRow HI.out.below (by omega) _) _⟩
        rw [← idxs_length P z (cols l N)]
        exact World.ownsRow.mono hr1 (by have h1 := HBw6.out.size; omega)
      case stop =>
        rintro D c pre W1 _ _ h _
        exact h.elim
end Go.Proofs.YtioeifbobhdccaaGreatDoor
