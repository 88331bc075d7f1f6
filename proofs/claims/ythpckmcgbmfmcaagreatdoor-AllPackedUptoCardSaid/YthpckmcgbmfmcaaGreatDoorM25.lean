/- Texts of this claim, joined. -/
import Derived.Laws.IdiomCopy
import Derived.Deep.RegionLaw
import Derived.Test.YthpckmcgbmfmcaaGreatDoorM24
set_option maxRecDepth 100000
set_option maxHeartbeats 12800000
namespace Go.Proofs.YthpckmcgbmfmcaaGreatDoor
open Go.RowKit Go.Sort
section
variable {P : Program}
theorem step_copy_cells {ops : Array Oper} {o : Oper} {a : Act} {w : World} {K : Act -> World -> Prop} {Q : Exit -> Act -> World -> Prop} {E : Prop}
  (hg : o.guard = none) (d x : Operand) (dT sT : TypeId) (hop : o.op = Op.call { callee := Callee.builtin Builtin.copy, args := #[d, x], argTypes := #[dT, sT] })
  (elem : TypeId) (hu : P.underlying dT = some (.slice elem)) (hs : (P.info? elem).map (·.size) = some 1)
  (b off dLen dCap : Nat) (hd : a.eval d = .slice (some ⟨b, off, none⟩) dLen dCap) (ad : Addr) (sLen sCap : Nat) (cs : List Value) (hx : a.eval x = .slice (some ad) sLen sCap) (hn : cs.length = Nat.min sLen dLen)
  (hsrc : ∀ j v, cs[j]? = some v -> w.cell? (ad.add j) = some v) (hc : ∀ j, j < cs.length -> (w.cell? ⟨b, off + j, none⟩).isSome = true) (hf : ∀ j, j < cs.length -> w.frozen? ⟨b, off + j, none⟩ = false) (h1 : ∀ v ∈ cs, v.oneCell' = true)
  (hK : K (a.put o.dst (goInt cs.length)) (w.setCells b off cs)) :
  if Region.wanted o (yielded ops a.tmps) = true then Oper.wp P o a w K Q else E := by
 have hw : Region.wanted o (yielded ops a.tmps) = true := by simp [Region.wanted, hg]
 rw [if_pos hw];have hrun := run_copy_cells (P := P) w dT sT o.type elem b off dLen dCap ad sLen sCap cs hu hs hn hsrc hc hf h1;unfold Oper.wp;simp [execOp, hop, resolve, invoke, builtin, hd, hx, hrun, Result.andThen];exact hK
end
theorem mul64_any (c : Nat) (hc : c <= 4096) (w : World) : Calls Tryz.prog 155 #[.int .u64 1, .int .u64 c] w fun e w' => e = .returned (.tuple #[.int .u64 0, .int .u64 c]) /\ w = w' := by
 have e1 : bits .and .u64 (c : Int) 4294967295 = (c : Int) := by
  have h1 : BitVec.ofInt 64 (4294967295 : Int) = BitVec.ofNat 64 (2 ^ 32 - 1) := by decide
  show IntKind.u64.wrap ((BitVec.ofInt 64 (c : Int) &&& BitVec.ofInt 64 4294967295).toNat : Int) = _;rw [h1, BitVec.toNat_and, BitVec.toNat_ofInt, BitVec.toNat_ofNat];have h2 : ((c : Int) % ((2 ^ 64 : Nat) : Int)).toNat = c := by omega
  have h3 : (2 ^ 32 - 1) % 2 ^ 64 = 2 ^ 32 - 1 := by decide
  rw [h2, h3, Nat.and_two_pow_sub_one_eq_mod, Nat.mod_eq_of_lt (by omega), IntKind.wrap_u64];omega
 have e1b : bits .and .u64 (1 : Int) 4294967295 = 1 := by decide
 have e1c : bits .and .u64 (0 : Int) 4294967295 = 0 := by decide
 have e2 : (c : Int) / 2 ^ 32 = 0 := by omega
 have e2b : (c : Int) / 4294967296 = 0 := by omega
 have e3 : IntKind.u64.wrap (c : Int) = (c : Int) := by rw [IntKind.wrap_u64]; omega
 go_enter Tryz.func155, Tryz.ntmps155
 go_wp2_with fail
 go_ret2
 exact ⟨rfl, rfl⟩
theorem mul_any (c : Nat) (hc : c <= 4096) (w : World) : Calls Tryz.prog 134 #[.int .u64 1, .int .u64 c] w fun e w' => e = .returned (.tuple #[.int .u64 0, .int .u64 c]) /\ w = w' := by
 have KM := hd_ (mul64_any c hc w);go_enter Tryz.func134, Tryz.ntmps134
 go_wp2_with fail
 refine KM.out.mono ?_;rintro e w1 ⟨rfl, rfl⟩;go_wp2_with fail
 go_ret2
 exact ⟨rfl, rfl⟩
theorem fRow_fill {b c : Nat} {k : IntKind} {t : TypeId} (x : Nat) : ∀ (m o : Nat) (w : World) (f g : Nat -> Nat), w.heap[b]? = some (.cells (fRow k f c) t (0, 0)) -> (∀ i, i < c -> g i = if o <= i /\ i < o + m then x else f i) ->
  (w.setCells b o (List.replicate m (Value.int k (x : Nat)))).heap[b]? = some (.cells (fRow k g c) t (0, 0))
 | 0, o, w, f, g, h, hg => by
  rw [fRow_congr k (f := f) (g := g) (fun i hi => by rw [hg i hi, if_neg (by omega)])];exact h
 | m + 1, o, w, f, g, h, hg => by
  refine fRow_fill x m (o + 1) _ (fun i => if i = o then x else f i) g (fRow_store h _ x (if_pos rfl) (fun i _ hi => if_neg hi)) ?_;intro i hi;rw [hg i hi];by_cases h1 : i = o
  ·subst h1
   rw [if_pos (by omega), if_neg (by omega), if_pos rfl]
  ·by_cases h2 : o <= i /\ i < o + (m + 1)
   ·rw [if_pos h2, if_pos (by omega)]
   ·rw [if_neg h2, if_neg (by omega), if_neg h1]
theorem below_fill {B b : Nat} (hb : B <= b) {a : World} : ∀ (vs : List Value) (o : Nat) {w : World}, Below B a w -> Below B a (w.setCells b o vs)
 | [], _, _, h => h
 | v :: r, o, _, h => below_fill hb r (o + 1) (h.setCell (p := ⟨b, o, none⟩) hb v)
theorem repl_get {m j : Nat} {u v : Value} (h : (List.replicate m u)[j]? = some v) : j < m /\ v = u := by
 have h1 := (List.getElem?_eq_some_iff.1 h).1;rw [List.length_replicate] at h1;rw [List.getElem?_replicate, if_pos h1] at h;exact ⟨h1, (Option.some.inj h).symm⟩
theorem made_i64 (m : Nat) : madeCells (Value.int .i64 0).cells m = fRow .i64 (fun _ => 0) m := by
 apply Array.toList_inj.1
 rw [show (Value.int .i64 0).cells = #[.int .i64 0] from rfl, toList_madeCells_one];unfold fRow;simp [List.map_const']
theorem make_i64 (m : Nat) (hm : m <= 16777216) (w : World) : (Instr.makeSlice 59 (.int .i64 (m : Int)) (.int .i64 (m : Int))).run Tryz.prog w = .ok (.slice (some ⟨w.heap.size, 0, none⟩) m m) (w.alloc (.cells (fRow .i64 (fun _ => 0) m) 3)) := by
 obtain ⟨i0, hi, hz0, hz1, hz2⟩ := info_parts infoInt;have := run_make_rowN (P := Tryz.prog) 59 3 i0 _ Tryz.underlying59 hi hz0 .i64 .i64 m m (Nat.le_refl _) (by rw [hz2]; omega) (by omega) w;rw [hz1, Nat.mul_one, made_i64] at this;exact this
theorem intSize : (Tryz.prog.info? 3).map (·.size) = some 1 := by kernel_rfl
def RepPost (x c : Nat) (w : World) (e : Ending) (w' : World) : Prop := ∃ g, e = .returned (.slice (some ⟨g, 0, none⟩) c c) /\ w.heap.size <= g /\ w'.heap[g]? = some (.cells (fRow .i64 (fun _ => x) c) 3 (0, 0)) /\ Below w.heap.size w w'
theorem repeat_any (x c sb : Nat) (w : World) (h : w.cell? ⟨sb, 0, none⟩ = some (.int .i64 (x : Nat))) (h1 : 1 <= c) (hc : c <= 4096) :
  Calls Tryz.prog 101 #[.slice (some ⟨sb, 0, none⟩) 1 1, .int .i64 c] w (RepPost x c w) := by
 have KM := hd_ (fun w => mul_any c hc w);have e1 : IntKind.u64.wrap (c : Int) = (c : Int) := by rw [IntKind.wrap_u64]; omega
 have e2 : IntKind.i64.wrap (c : Int) = (c : Int) := i64i (by omega);have HX := hd_ h;have HMK := hd_ (make_i64 c (by omega));clear h;go_enter Tryz.func101, Tryz.ntmps101
 go_wp2_with fail
 refine (KM.out _).mono ?_;rintro e w1 ⟨rfl, rfl⟩;clear KM;have hmk := HMK.out;clear HMK;go_upto_region 7 with (fail)
 clear hmk;have q2 := heap_alloc_new w (.cells (fRow .i64 (fun _ => 0) c) 3 (0, 0));have hb2 := (Below.refl w.heap.size w).alloc (Nat.le_refl _) (.cells (fRow .i64 (fun _ => 0) c) 3 (0, 0));have hx2 := keep_cell hb2 HX.out;obtain ⟨tb, htb⟩ : ∃ x, w.heap.size = x := ⟨_, rfl⟩;have HTB : Hid (w.heap.size <= tb) := hd_ (Nat.le_of_eq htb);generalize w.alloc (.cells (fRow .i64 (fun _ => 0) c) 3 (0, 0)) = w2 at *;have hne : ¬ sb = tb := by have h3 := World.block_lt_of_cell? w _ HX.out; simp at h3; omega
 rw [htb] at q2 ⊢;have hr : ∀ ty, (Builtin.copy_ #[59, 59] ty #[.slice (some ⟨tb, 0, none⟩) c c, .slice (some ⟨sb, 0, none⟩) 1 1]).run Tryz.prog w2 = .ok (goInt 1) (w2.setCells tb 0 (List.replicate 1 (.int .i64 (x : Nat)))) := fun ty =>
  run_copy_cells w2 59 59 ty 3 tb 0 c c ⟨sb, 0, none⟩ 1 1 (List.replicate 1 (.int .i64 (x : Nat))) Tryz.underlying59 intSize (by rw [List.length_replicate]; exact (Nat.min_eq_left h1).symm)
   (fun j v hj => by obtain ⟨hj1, rfl⟩ := repl_get hj; obtain rfl : j = 0 := (by omega); exact hx2)
   (fun j hj => by rw [List.length_replicate] at hj; rw [Nat.zero_add, fRow_cell q2 (by omega)]; rfl) (fun j hj => frozen_of_row w2 tb _ _ _ q2) (fun v hv => by rw [List.eq_of_mem_replicate hv]; rfl)
 have HR := hd_ hr;have HQ3 := hd_ (fRow_fill x 1 0 w2 _ (fun j => if j < 1 then x else 0) q2 (fun i _ => by simp));have HB3 := hd_ (below_fill HTB.out (List.replicate 1 (Value.int .i64 (x : Nat))) 0 hb2);clear hr q2 hb2 hx2 hne htb HX;go_wp2_with fail
 rw [HR.out];clear HR;generalize w2.setCells tb 0 (List.replicate 1 (.int .i64 (x : Nat))) = w3 at *;go_wp2_with fail
 go_loopg [8] (c - 1) (fun gk s8 wr => ∃ f : Nat, 1 <= f /\ f <= c /\ gk = c - f /\ s8 = .int .i64 (f : Nat) /\ wr.heap[tb]? = some (.cells (fRow .i64 (fun j => if j < f then x else 0) c) 3 (0, 0)) /\ Below w.heap.size w wr)
 case atStart => exact ⟨1, Nat.le_refl _, h1, rfl, by go_num, HQ3.out, HB3.out⟩
 case round =>
  obtain ⟨f, hf1, hfc, hg, rfl, hq, hb⟩ := hrel;have Hg := hd_ hg;have HQ := hd_ hq;have HB := hd_ hb;clear hg hq hb;by_cases hlt : f < c
  ·go_upto_region 9 with (fail)
   obtain ⟨m, hm⟩ : ∃ m, Nat.min f (c - f) = m := ⟨_, rfl⟩;have hm1 : 1 <= m := (by rw [<- hm]; exact Nat.le_min.2 ⟨hf1, by omega⟩);have hm2 : m <= f := (by rw [<- hm]; exact Nat.min_le_left _ _);have hm4 : m <= c - f := (by rw [<- hm]; exact Nat.min_le_right _ _);have hm3 : f + m <= c := (by clear hm; omega);have HSRC : Hid (∀ j v, (List.replicate m (Value.int .i64 (x : Nat)))[j]? = some v -> wr.cell? ((⟨tb, 0, none⟩ : Addr).add j) = some v) := hd_ (by
    intro j v hj;obtain ⟨hj1, rfl⟩ := repl_get hj;rw [Addr.add_mid, Nat.zero_add, fRow_cell HQ.out (by omega), if_pos (by omega)])
   have HCC : Hid (∀ j, j < (List.replicate m (Value.int .i64 (x : Nat))).length -> (wr.cell? ⟨tb, f + j, none⟩).isSome = true) := hd_ (by
    intro j hj;rw [List.length_replicate] at hj;rw [fRow_cell HQ.out (by omega)];rfl)
   have HFF : Hid (∀ j, j < (List.replicate m (Value.int .i64 (x : Nat))).length -> wr.frozen? ⟨tb, f + j, none⟩ = false) := hd_ (fun j _ => frozen_of_row wr tb _ _ _ HQ.out);have HONE : Hid (∀ v ∈ List.replicate m (Value.int .i64 (x : Nat)), v.oneCell' = true) := hd_ (fun v hv => by rw [List.eq_of_mem_replicate hv]; rfl);have HN : Hid ((List.replicate m (Value.int .i64 (x : Nat))).length = Nat.min f (c - f)) := hd_ (by rw [List.length_replicate, hm]);obtain ⟨f2, hf2⟩ : ∃ f2, f + m = f2 := ⟨_, rfl⟩;have HQ4 := hd_ (fRow_fill x m f wr.drew _ (fun j => if j < f2 then x else 0) HQ.out (fun i _ => by
    show (if i < f2 then x else 0) = if f <= i /\ i < f + m then x else (if i < f then x else 0)
    by_cases h5 : i < f
    ·rw [if_pos (by omega), if_neg (by omega), if_pos h5]
    ·by_cases h6 : i < f2
     ·rw [if_pos h6, if_pos (by omega)]
     ·rw [if_neg h6, if_neg (by omega), if_neg h5]))
   have HB4 := hd_ (below_fill HTB.out (List.replicate m (Value.int .i64 (x : Nat))) f (Below.drew HB.out));have e7 : goInt (List.replicate m (Value.int .i64 (x : Nat))).length = .int .i64 (m : Nat) := (by rw [List.length_replicate]; rfl);have e8 : IntKind.i64.wrap ((f : Int) + (m : Int)) = (f2 : Int) := i64o (by omega) (by omega);have hcf : ¬ c = f := (by omega);have HF2 := hd_ (show f < f2 /\ f2 <= c by omega);clear hm hf2 HQ HB
   go_region_law (refine step_copy_cells rfl (.tmp 41) (.tmp 44) 59 59 rfl 3 Tryz.underlying59 intSize tb f (c - f) (c - f) (by simp [Act.eval, Act.put]) ⟨tb, 0, none⟩ f c (List.replicate m (Value.int .i64 (x : Nat))) (by simp [Act.eval, Act.put]) HN.out HSRC.out HCC.out HFF.out HONE.out ?_)
   all_goals
    generalize wr.drew.setCells tb f (List.replicate m (Value.int .i64 (x : Nat))) = w4 at *;go_wp2_with fail
    go_roundg (c - f2)
    case measure => have := Hg.out; have := HF2.out; omega
    case rel => exact ⟨f2, by have := HF2.out; omega, HF2.out.2, rfl, by go_num, HQ4.out, HB4.out⟩
  ·obtain rfl : f = c := by omega
   have HQ2 : Hid (wr.heap[tb]? = some (.cells (fRow .i64 (fun _ => x) f) 3 (0, 0))) := hd_ (by
    rw [fRow_congr .i64 (f := fun j => if j < f then x else 0) (g := fun _ => x) (fun i hi => (if_pos hi).symm)];exact HQ.out)
   clear HQ;go_wp2_with fail
   go_ret
   exact ⟨tb, rfl, HTB.out, HQ2.out, HB.out⟩
namespace df
def fixL : List Nat := List.replicate 144 8 ++ List.replicate 112 9 ++ List.replicate 24 7 ++ List.replicate 8 8
def fixD : List Nat := List.replicate 30 5
theorem fixL_length : fixL.length = 288 := by unfold fixL; rw [List.length_append, List.length_append, List.length_append, List.length_replicate, List.length_replicate, List.length_replicate, List.length_replicate]
theorem fixD_length : fixD.length = 30 := List.length_replicate
end df
theorem fRow_src {w : World} {g c x : Nat} {t : TypeId} (h : w.heap[g]? = some (.cells (fRow .i64 (fun _ => x) c) t (0, 0))) : (⟨some ⟨g, 0, none⟩, c, c, (nats (List.replicate c x)).map (Value.int .i64)⟩ : Src).Ok 1 w := by
 refine ⟨by simp [nats], ints_oneCell _ _, .inr ⟨_, rfl, fun j u hu => ?_⟩⟩;have h1 : j < c /\ u = .int .i64 (x : Nat) := by
  have h2 := (List.getElem?_eq_some_iff.1 hu).1;simp [nats] at h2;simp [nats, h2] at hu;exact ⟨h2, hu.symm⟩
 rw [Addr.add_mid, Nat.zero_add, fRow_cell h h1.1, h1.2]
theorem own_in {base : Nat} {w : World} {v : Value} {n : Nat} {ls : List Nat} (h : w.ownsRow base 3 1 v n ((nats ls).map (Value.int .i64))) (hn : 1 <= n) (hle : ∀ x ∈ ls, x <= 1099511627776) : ∃ b c, v = .slice (some ⟨b, 0, none⟩) n c /\ base <= b /\ In w b n c ls := by
 rcases h.2 with ⟨_, h0⟩ | ⟨g, cap, cur, rfl, h1, h2, h3, h4, h5, h6⟩
 ·have := h.1
  rw [h0] at this;simp at this;omega
 ·exact ⟨g, cap, rfl, h1, Fresh.sl h (nats_wf ls hle), cur, h2⟩
theorem src_to_sl {w : World} {g c x : Nat} (h : (⟨some ⟨g, 0, none⟩, c, c, (nats (List.replicate c x)).map (Value.int .i64)⟩ : Src).Ok 1 w) (hc : c <= 4096) (hx : x <= 1099511627776) : Sl .i64 w (some ⟨g, 0, none⟩) c c (nats (List.replicate c x)) := by
 have hl : (nats (List.replicate c x)).length = c := by rw [nats_length, List.length_replicate]
 refine ⟨hl, Nat.le_refl _, by unfold maxLen; omega, (fun e => by cases e), nats_wf _ (fun y hy => by rw [List.eq_of_mem_replicate hy]; exact hx), .inr ⟨g, 0, rfl, fun i hi => ?_⟩⟩;rcases h.rd with ⟨h0, _⟩ | ⟨ad, e, h1⟩
 ·cases h0
 ·obtain rfl : (⟨g, 0, none⟩ : Addr) = ad := Option.some.inj e
  have h2 := h1 i (.int .i64 ((nats (List.replicate c x)).getD i 0)) (by
   rw [List.getElem?_map, List.getD_eq_getElem?_getD, List.getElem?_eq_getElem hi];rfl)
  rwa [Addr.add_mid] at h2
def df.FixPost (w : World) (e : Ending) (w' : World) : Prop := ∃ lb lc db dc, e = .returned (.tuple #[.slice (some ⟨lb, 0, none⟩) 288 lc, .slice (some ⟨db, 0, none⟩) 30 dc]) /\ In w' lb 288 lc df.fixL /\ In w' db 30 dc df.fixD /\ Below w.heap.size w w'
theorem list4 {α : Type} {a b c d : α} {i : Nat} {x : α} (h : [a, b, c, d][i]? = some x) : (i = 0 /\ x = a) \/ (i = 1 /\ x = b) \/ (i = 2 /\ x = c) \/ (i = 3 /\ x = d) := by
 match i, h with
 | 0, h => exact .inl ⟨rfl, (Option.some.inj h).symm⟩
 | 1, h => exact .inr (.inl ⟨rfl, (Option.some.inj h).symm⟩)
 | 2, h => exact .inr (.inr (.inl ⟨rfl, (Option.some.inj h).symm⟩))
 | 3, h => exact .inr (.inr (.inr ⟨rfl, (Option.some.inj h).symm⟩))
 | i + 4, h => cases h
theorem fixed_any (w : World) : Calls Tryz.prog 53 #[] w (df.FixPost w) := by
 have KR := hd_ repeat_any;go_enter Tryz.func53, Tryz.ntmps53
 go_wp2_with fail
 obtain ⟨a1, ha1⟩ : ∃ a, w.alloc (.cells #[.int .i64 8] 3) = a := ⟨_, rfl⟩;have hb1 : Below w.heap.size w a1 := by rw [<- ha1]; exact (Below.refl _ _).alloc (Nat.le_refl _) _
 have hc1 : a1.cell? ⟨w.heap.size, 0, none⟩ = some (.int .i64 ((8 : Nat) : Int)) := by rw [<- ha1]; exact (cell_of_row _ _ 0 _ _ (0, 0) (heap_alloc_new _ _)).trans rfl
 rw [ha1];refine (KR.out 8 144 w.heap.size a1 hc1 (by decide) (by decide)).mono ?_;rintro e w1 ⟨g1, rfl, hg1, hq1, hw1⟩;have hbb := hb1.trans (hw1.mono hb1.size);have HB1 : Hid (Below w.heap.size w w1) := hd_ (hbb);have HQ1 := hd_ hq1;clear ha1 hb1 hc1 hg1 hq1 hw1 hbb;go_wp2_with fail
 obtain ⟨a2, ha2⟩ : ∃ a, w1.alloc (.cells #[.int .i64 9] 3) = a := ⟨_, rfl⟩;have hb2 : Below w1.heap.size w1 a2 := by rw [<- ha2]; exact (Below.refl _ _).alloc (Nat.le_refl _) _
 have hc2 : a2.cell? ⟨w1.heap.size, 0, none⟩ = some (.int .i64 ((9 : Nat) : Int)) := by rw [<- ha2]; exact (cell_of_row _ _ 0 _ _ (0, 0) (heap_alloc_new _ _)).trans rfl
 rw [ha2];refine (KR.out 9 112 w1.heap.size a2 hc2 (by decide) (by decide)).mono ?_;rintro e w2 ⟨g2, rfl, hg2, hq2, hw2⟩;have hbb := hb2.trans (hw2.mono hb2.size);have HB2 : Hid (Below w.heap.size w w2) := hd_ (HB1.out.trans (hbb.mono HB1.out.size));have HQ2 := hd_ hq2;have HQ1 := hd_ ((hbb.block _ (block_lt HQ1.out)).trans HQ1.out);clear ha2 hb2 hc2 hg2 hq2 hw2 hbb;go_wp2_with fail
 obtain ⟨a3, ha3⟩ : ∃ a, w2.alloc (.cells #[.int .i64 7] 3) = a := ⟨_, rfl⟩;have hb3 : Below w2.heap.size w2 a3 := by rw [<- ha3]; exact (Below.refl _ _).alloc (Nat.le_refl _) _
 have hc3 : a3.cell? ⟨w2.heap.size, 0, none⟩ = some (.int .i64 ((7 : Nat) : Int)) := by rw [<- ha3]; exact (cell_of_row _ _ 0 _ _ (0, 0) (heap_alloc_new _ _)).trans rfl
 rw [ha3];refine (KR.out 7 24 w2.heap.size a3 hc3 (by decide) (by decide)).mono ?_;rintro e w3 ⟨g3, rfl, hg3, hq3, hw3⟩;have hbb := hb3.trans (hw3.mono hb3.size);have HB3 : Hid (Below w.heap.size w w3) := hd_ (HB2.out.trans (hbb.mono HB2.out.size));have HQ3 := hd_ hq3;have HQ1 := hd_ ((hbb.block _ (block_lt HQ1.out)).trans HQ1.out);have HQ2 := hd_ ((hbb.block _ (block_lt HQ2.out)).trans HQ2.out);clear ha3 hb3 hc3 hg3 hq3 hw3 hbb;go_wp2_with fail
 obtain ⟨a4, ha4⟩ : ∃ a, w3.alloc (.cells #[.int .i64 8] 3) = a := ⟨_, rfl⟩;have hb4 : Below w3.heap.size w3 a4 := by rw [<- ha4]; exact (Below.refl _ _).alloc (Nat.le_refl _) _
 have hc4 : a4.cell? ⟨w3.heap.size, 0, none⟩ = some (.int .i64 ((8 : Nat) : Int)) := by rw [<- ha4]; exact (cell_of_row _ _ 0 _ _ (0, 0) (heap_alloc_new _ _)).trans rfl
 rw [ha4];refine (KR.out 8 8 w3.heap.size a4 hc4 (by decide) (by decide)).mono ?_;rintro e w4 ⟨g4, rfl, hg4, hq4, hw4⟩;have hbb := hb4.trans (hw4.mono hb4.size);have HB4 : Hid (Below w.heap.size w w4) := hd_ (HB3.out.trans (hbb.mono HB3.out.size));have HQ4 := hd_ hq4;have HQ1 := hd_ ((hbb.block _ (block_lt HQ1.out)).trans HQ1.out);have HQ2 := hd_ ((hbb.block _ (block_lt HQ2.out)).trans HQ2.out);have HQ3 := hd_ ((hbb.block _ (block_lt HQ3.out)).trans HQ3.out);clear ha4 hb4 hc4 hg4 hq4 hw4 hbb;go_wp2_with fail
 obtain ⟨a5, ha5⟩ : ∃ a, w4.alloc (.cells #[.slice (some ⟨g1, 0, none⟩) 144 144, .slice (some ⟨g2, 0, none⟩) 112 112, .slice (some ⟨g3, 0, none⟩) 24 24, .slice (some ⟨g4, 0, none⟩) 8 8] 59) = a := ⟨_, rfl⟩;have hb5 : Below w4.heap.size w4 a5 := by rw [<- ha5]; exact (Below.refl _ _).alloc (Nat.le_refl _) _
 have hc5 : a5.heap[w4.heap.size]? = some (.cells #[.slice (some ⟨g1, 0, none⟩) 144 144, .slice (some ⟨g2, 0, none⟩) 112 112, .slice (some ⟨g3, 0, none⟩) 24 24, .slice (some ⟨g4, 0, none⟩) 8 8] 59 (0, 0)) := by rw [<- ha5]; exact heap_alloc_new _ _
 have hq1 := fRow_src ((hb5.block _ (block_lt HQ1.out)).trans HQ1.out);have hq2 := fRow_src ((hb5.block _ (block_lt HQ2.out)).trans HQ2.out);have hq3 := fRow_src ((hb5.block _ (block_lt HQ3.out)).trans HQ3.out);have hq4 := fRow_src ((hb5.block _ (block_lt HQ4.out)).trans HQ4.out);have KC := icat_any w4.heap.size 0 4 [⟨some ⟨g1, 0, none⟩, 144, 144, (nats (List.replicate 144 8)).map (Value.int .i64)⟩, ⟨some ⟨g2, 0, none⟩, 112, 112, (nats (List.replicate 112 9)).map (Value.int .i64)⟩, ⟨some ⟨g3, 0, none⟩, 24, 24, (nats (List.replicate 24 7)).map (Value.int .i64)⟩, ⟨some ⟨g4, 0, none⟩, 8, 8, (nats (List.replicate 8 8)).map (Value.int .i64)⟩] a5
  (fun i s h => by
   rcases list4 h with ⟨rfl, rfl⟩ | ⟨rfl, rfl⟩ | ⟨rfl, rfl⟩ | ⟨rfl, rfl⟩ <;> exact (cell_of_row _ _ _ _ _ (0, 0) hc5).trans rfl)
  (by show (4 : Nat) <= 4096; decide) (fun s h => by
   obtain ⟨i, hi⟩ := List.mem_iff_getElem?.1 h;rcases list4 hi with ⟨rfl, rfl⟩ | ⟨rfl, rfl⟩ | ⟨rfl, rfl⟩ | ⟨rfl, rfl⟩ <;> assumption) (by show (288 : Nat) <= _; decide) (Nat.le_refl _)
 rw [ha5];refine KC.mono ?_;rintro e w5 ⟨v5, rfl, hown, hw5⟩;have hcv : catV [⟨some ⟨g1, 0, none⟩, 144, 144, (nats (List.replicate 144 8)).map (Value.int .i64)⟩, ⟨some ⟨g2, 0, none⟩, 112, 112, (nats (List.replicate 112 9)).map (Value.int .i64)⟩, ⟨some ⟨g3, 0, none⟩, 24, 24, (nats (List.replicate 24 7)).map (Value.int .i64)⟩, ⟨some ⟨g4, 0, none⟩, 8, 8, (nats (List.replicate 8 8)).map (Value.int .i64)⟩] = (nats df.fixL).map (Value.int .i64) := by
  unfold df.fixL catV;rw [nats_append, nats_append, nats_append, List.map_append, List.map_append, List.map_append, List.flatMap_cons, List.flatMap_cons, List.flatMap_cons, List.flatMap_cons, List.flatMap_nil, List.append_nil, List.append_assoc, List.append_assoc]
 rw [hcv] at hown;obtain ⟨lb, lc, rfl, _, hin⟩ := own_in (n := 288) hown (by decide) (by
  intro x hx;unfold df.fixL at hx;rw [List.mem_append, List.mem_append, List.mem_append] at hx;rcases hx with ((h | h) | h) | h <;> rw [List.eq_of_mem_replicate h] <;> decide)
 have HI := hd_ hin;have HB5 : Hid (Below w.heap.size w w5) := hd_ (HB4.out.trans ((hb5.trans (hw5.mono hb5.size)).mono HB4.out.size));clear ha5 hb5 hc5 hq1 hq2 hq3 hq4 KC hcv hown hin hw5 HQ1 HQ2 HQ3 HQ4;go_wp2_with fail
 obtain ⟨a6, ha6⟩ : ∃ a, w5.alloc (.cells #[.int .i64 5] 3) = a := ⟨_, rfl⟩;have hb6 : Below w5.heap.size w5 a6 := by rw [<- ha6]; exact (Below.refl _ _).alloc (Nat.le_refl _) _
 have hc6 : a6.cell? ⟨w5.heap.size, 0, none⟩ = some (.int .i64 ((5 : Nat) : Int)) := by rw [<- ha6]; exact (cell_of_row _ _ 0 _ _ (0, 0) (heap_alloc_new _ _)).trans rfl
 rw [ha6];refine (KR.out 5 30 w5.heap.size a6 hc6 (by decide) (by decide)).mono ?_;rintro e w6 ⟨g6, rfl, hg6, hq6, hw6⟩;have hbb := hb6.trans (hw6.mono hb6.size);have HD : Hid (In w6 g6 30 30 df.fixD) := hd_ (by
  refine ⟨?_, _, hq6⟩;have h1 := src_to_sl (fRow_src hq6) (by decide) (by decide);exact h1)
 have HI := hd_ (HI.out.below hbb);have HB6 := hd_ (HB5.out.trans (hbb.mono HB5.out.size));clear ha6 hb6 hc6 hg6 hq6 hw6 hbb;go_wp2_with fail
 go_ret2
 exact ⟨lb, lc, g6, 30, rfl, HI.out, HD.out, HB6.out⟩
theorem kswap_any (base b cap : Nat) (t : List Cn) (F : Value) (x y m : Nat) (w : World) (h : RowK base w b cap t) (hx : x + m <= y) (hy : y + m <= t.length) (hl : t.length <= 1099511627776) :
  Calls Tryz.prog 196 #[.slice (some ⟨b, 0, none⟩) t.length cap, .int .i64 x, .int .i64 y, .int .i64 m, F] w (MovePost base b cap x (y + m) t (so.swR (so.at' Cn.zero t) x y m) w) := by
 have HR := hd_ h;obtain ⟨n, hn⟩ : ∃ n, t.length = n := ⟨_, rfl⟩;rw [hn] at hy hl ⊢;have HN := hd_ hn;clear h hn;go_enter Tryz.func196, Tryz.ntmps196
 go_wp2_with fail
 go_loopg [10] m (fun gk i wr => ∃ (k : Nat) (t1 : List Cn), k <= m /\ gk = m - k /\ i = .int .i64 k /\ so.PermIn Cn.zero x (y + m) t t1 /\ so.at' Cn.zero t1 = so.swR (so.at' Cn.zero t) x y k /\ RowK base wr b cap t1 /\ w.grownBy wr (some b))
 case atStart => exact ⟨0, t, Nat.zero_le _, rfl, rfl, so.PermIn.refl _ _ _ _, (so.swR_zero _ _ _).symm, HR.out, World.grownBy.refl _ _⟩
 case round =>
  obtain ⟨k, t1, hk, hg, rfl, hm, ha, hr, hgw⟩ := hrel;have Hg := hd_ hg;have HM := hd_ hm;have HA := hd_ ha;have HR1 := hd_ hr;have HG := hd_ hgw;have hl1 : t1.length = n := hm.perm.length_eq.trans HN.out;have HL1 := hd_ hl1;clear hg hm ha hr hgw;by_cases hlt : k < m
  ·obtain ⟨xi, hxi⟩ : ∃ xi, x + k = xi := ⟨_, rfl⟩
   obtain ⟨yi, hyi⟩ : ∃ yi, y + k = yi := ⟨_, rfl⟩;obtain ⟨cx, hcx⟩ : ∃ cx, t1[xi]? = some cx := ⟨_, List.getElem?_eq_getElem (by omega)⟩;obtain ⟨cy, hcy⟩ : ∃ cy, t1[yi]? = some cy := ⟨_, List.getElem?_eq_getElem (by omega)⟩;obtain ⟨x0, x1, y0, y1, f0, f1, g0, g1, h0, h1⟩ := HR1.out.swF hcx hcy (by omega);have sx : IntKind.i64.wrap ((x : Int) + (k : Int)) = (xi : Int) := i64o (by omega) (by omega);have sy : IntKind.i64.wrap ((y : Int) + (k : Int)) = (yi : Int) := i64o (by omega) (by omega);have bx : (xi : Int) < (n : Int) := (by omega);have by' : (yi : Int) < (n : Int) := (by omega);have HXI := hd_ hxi;have HYI := hd_ hyi;have HCX := hd_ hcx;have HCY := hd_ hcy;clear hxi hyi hcx hcy hl1;go_wp2_with fail
   go_region
   go_wp2_with fail
   go_roundg (m - (k + 1))
   case measure => have := Hg.out; omega
   case rel =>
    obtain ⟨hr5, hg5⟩ := HR1.out.swW HCX.out HCY.out;have hxn : xi < t1.length := (List.getElem?_eq_some_iff.1 HCX.out).1;have hyn : yi < t1.length := (List.getElem?_eq_some_iff.1 HCY.out).1;refine ⟨k + 1, so.swL Cn.zero t1 xi yi, by omega, rfl, by go_num, HM.out.sw (by have := HXI.out; omega) (by have := HYI.out; omega) (by have := HL1.out; omega), ?_, hr5.below (Below.drew (Below.refl _ _)), HG.out.trans (hg5.trans (grown_some (Below.drew (Below.refl _ _))))⟩;rw [so.swL_at _ _ hxn hyn, HA.out, <- HXI.out, <- HYI.out];exact so.swR_step _ hlt hx
  ·obtain rfl : k = m := by omega
   go_wp2_with fail
   refine bodyPost_end (results_none rfl _ _ _) rfl ?_;exact ⟨rfl, t1, HM.out, HA.out, HR1.out, HG.out⟩
theorem krotate_any (base b cap : Nat) (t : List Cn) (F : Value) (x m y : Nat) (w : World) (h : RowK base w b cap t) (hx : x < m) (hy : m < y) (hyn : y <= t.length) (hl : t.length <= 1099511627776) :
  Calls Tryz.prog 190 #[.slice (some ⟨b, 0, none⟩) t.length cap, .int .i64 x, .int .i64 m, .int .i64 y, F] w (MovePost base b cap x y t (so.rot (so.at' Cn.zero t) x m y) w) := by
 have HR := hd_ h;obtain ⟨n, hn⟩ : ∃ n, t.length = n := ⟨_, rfl⟩;rw [hn] at hyn hl ⊢;have HN := hd_ hn;clear h hn;obtain ⟨i0, hi0⟩ : ∃ i0, m - x = i0 := ⟨_, rfl⟩;obtain ⟨j0, hj0⟩ : ∃ j0, y - m = j0 := ⟨_, rfl⟩;have si : (m : Int) - (x : Int) = (i0 : Int) := by omega
 have sj : (y : Int) - (m : Int) = (j0 : Int) := by omega
 have hi1 : 0 < i0 := by omega
 have hi2 : i0 <= m := by omega
 have hj1 : 0 < j0 := by omega
 have hj2 : m + j0 <= n := by omega
 have HXm : Hid (m - i0 = x /\ m + j0 = y) := hd_ (by omega);clear hi0 hj0 hx hy hyn;go_enter Tryz.func190, Tryz.ntmps190
 go_wp2_with fail
 clear si sj;go_loopg [10, 11] (i0 + j0) (fun gk s10 s11 wr => ∃ (i j : Nat) (t1 : List Cn), gk = i + j /\ s10 = .int .i64 i /\ s11 = .int .i64 j /\ 0 < i /\ i <= m /\ 0 < j /\ m + j <= n /\ x <= m - i /\ m + j <= y /\ so.PermIn Cn.zero x y t t1 /\ so.rot (so.at' Cn.zero t1) (m - i) m (m + j) = so.rot (so.at' Cn.zero t) x m y /\ RowK base wr b cap t1 /\ w.grownBy wr (some b))
 case atStart => exact ⟨i0, j0, t, rfl, rfl, rfl, hi1, hi2, hj1, hj2, by have := HXm.out; omega, by have := HXm.out; omega, so.PermIn.refl _ _ _ _, by rw [HXm.out.1, HXm.out.2], HR.out, World.grownBy.refl _ _⟩
 case round =>
  obtain ⟨i, j, t1, hg, rfl, rfl, h1, h2, h3, h4, h5, h6, hm, ha, hr, hgw⟩ := hrel;have Hg := hd_ hg;have HM := hd_ hm;have HA := hd_ ha;have HR1 := hd_ hr;have HG := hd_ hgw;have HL1 := hd_ (hm.perm.length_eq.trans HN.out);clear hg hm ha hr hgw;by_cases hne : i = j
  ·subst hne
   have CS := hd_ (kswap_any base b cap t1 F (m - i) m i wr HR1.out (by omega) (by have := HL1.out; omega) (by have := HL1.out; omega));rw [HL1.out] at CS;have hrs := so.rot_same (so.at' Cn.zero t1) (a := m - i) (m := m) (b := m + i) (by omega) (by omega) (by omega);rw [show m - (m - i) = i by omega] at hrs;have HRS := hd_ hrs;obtain ⟨p, hp⟩ : ∃ p, m - i = p := ⟨_, rfl⟩;have sp : (m : Int) - (i : Int) = (p : Int) := (by omega);rw [hp] at CS HRS HA h5;clear hp hrs;go_wp2_with fail
   refine CS.out.mono ?_;rintro e w2 ⟨rfl, t2, hm2, ha2, hr2, hg2⟩;have H2 := hd_ (And.intro hm2 (And.intro ha2 (And.intro hr2 hg2)));clear hm2 ha2 hr2 hg2 CS;go_wp2_with fail
   refine bodyPost_end (results_none rfl _ _ _) rfl ?_;exact ⟨rfl, t2, HM.out.trans (H2.out.1.wide h5 h6), H2.out.2.1.trans (HRS.out.trans HA.out), H2.out.2.2.1, HG.out.trans H2.out.2.2.2⟩
  ·by_cases hgt : j < i
   ·have CS := hd_ (kswap_any base b cap t1 F (m - i) m j wr HR1.out (by omega) (by have := HL1.out; omega) (by have := HL1.out; omega))
    rw [HL1.out] at CS;have HRS := hd_ (so.rot_left (so.at' Cn.zero t1) (a := m - i) (m := m) (b := m + j) (j := j) (by omega) (by omega) (by omega));obtain ⟨p, hp⟩ : ∃ p, m - i = p := ⟨_, rfl⟩;have sp : (m : Int) - (i : Int) = (p : Int) := (by omega);have HP : Hid (m - (i - j) = p + j) := hd_ (by omega);rw [hp] at CS HRS HA h5;have hgt' : (j : Int) < (i : Int) := (by omega);have hbn : ((i : Int) != (j : Int)) = true := (by simp; omega);have HNE := hd_ hne;clear hp hne;go_wp2_with fail
    refine CS.out.mono ?_;rintro e w2 ⟨rfl, t2, hm2, ha2, hr2, hg2⟩;have H2 := hd_ (And.intro hm2 (And.intro ha2 (And.intro hr2 hg2)));clear hm2 ha2 hr2 hg2 CS;go_wp2_with fail
    go_roundg (i - j + j)
    case measure => have := Hg.out; omega
    case rel => exact ⟨i - j, j, t2, rfl, by go_num, rfl, by omega, by omega, h3, h4, by have := HP.out; omega, h6, HM.out.trans (H2.out.1.wide h5 h6), by rw [HP.out, H2.out.2.1, HRS.out]; exact HA.out, H2.out.2.2.1, HG.out.trans H2.out.2.2.2⟩
   ·have CS := hd_ (kswap_any base b cap t1 F (m - i) (m + j - i) i wr HR1.out (by omega) (by have := HL1.out; omega) (by have := HL1.out; omega))
    rw [HL1.out] at CS;have HRS := hd_ (so.rot_right (so.at' Cn.zero t1) (a := m - i) (m := m) (b := m + j) (i := i) (by omega) (by omega) (by omega));obtain ⟨p, hp⟩ : ∃ p, m - i = p := ⟨_, rfl⟩;obtain ⟨q, hq⟩ : ∃ q, m + j - i = q := ⟨_, rfl⟩;have sp : (m : Int) - (i : Int) = (p : Int) := (by omega);have sq : (m : Int) + (j : Int) - (i : Int) = (q : Int) := (by omega);have HQ : Hid (m + (j - i) = q /\ q + i = m + j) := hd_ (by omega);rw [hp] at HA h5;rw [hp, hq] at CS HRS;have hgt' : ¬ (j : Int) < (i : Int) := (by omega);have hbn : ((i : Int) != (j : Int)) = true := (by simp; omega);have HNE := hd_ hne;have HPe := hd_ hp;clear hp hq hne;go_wp2_with fail
    refine CS.out.mono ?_;rintro e w2 ⟨rfl, t2, hm2, ha2, hr2, hg2⟩;have H2 := hd_ (And.intro hm2 (And.intro ha2 (And.intro hr2 hg2)));clear hm2 ha2 hr2 hg2 CS;go_wp2_with fail
    go_roundg (i + (j - i))
    case measure => have := Hg.out; have := HNE.out; omega
    case rel => exact ⟨i, j - i, t2, rfl, rfl, by go_num, h1, h2, by have := HNE.out; omega, by omega, by have := HPe.out; omega, by omega, HM.out.trans (H2.out.1.wide h5 (by have := HQ.out; omega)), by rw [HPe.out, HQ.out.1, H2.out.2.1, HRS.out]; exact HA.out, H2.out.2.2.1, HG.out.trans H2.out.2.2.2⟩
def cmpV (x y : Int) : Int := if x < y then -1 else if y < x then 1 else 0
theorem cmpV_neg (x y : Int) : cmpV x y < 0 ↔ x < y := by
 unfold cmpV;split
 ·simp_all
 ·split <;> simp_all
theorem isNaN_any (x : Int) (w : World) : Calls Tryz.prog 157 #[.int .i64 x] w fun e w' => e = .returned (.bool false) /\ w = w' := by
 go_enter Tryz.func157, Tryz.ntmps157
 go_wp2_with fail
 go_ret
 exact ⟨by simp, rfl⟩
theorem compare_any (x y : Int) (w : World) : Calls Tryz.prog 140 #[.int .i64 x, .int .i64 y] w fun e w' => e = .returned (.int .i64 (cmpV x y)) /\ w = w' := by
 have C1 := hd_ (fun w => isNaN_any x w);have C2 := hd_ (fun w => isNaN_any y w);have key : ∀ z : Int, cmpV x y = z -> (x < y /\ z = -1) \/ (¬ x < y /\ y < x /\ z = 1) \/ (¬ x < y /\ ¬ y < x /\ z = 0) := by
  intro z hz;unfold cmpV at hz;split at hz
  ·exact .inl ⟨by assumption, hz.symm⟩
  ·split at hz
   ·exact .inr (.inl ⟨by assumption, by assumption, hz.symm⟩)
   ·exact .inr (.inr ⟨by assumption, by assumption, hz.symm⟩)
 obtain ⟨z, hz⟩ : ∃ z, cmpV x y = z := ⟨_, rfl⟩;rw [hz];rcases key z hz with ⟨h1, rfl⟩ | ⟨h1, h2, rfl⟩ | ⟨h1, h2, rfl⟩
 all_goals
  clear key hz;go_enter Tryz.func140, Tryz.ntmps140
  go_wp2_with fail
  refine (C1.out _).mono ?_;rintro e w1 ⟨rfl, rfl⟩;go_wp2_with fail
  refine (C2.out _).mono ?_;rintro e w1 ⟨rfl, rfl⟩;go_wp2_with fail
  go_ret
  exact ⟨rfl, rfl⟩
theorem kcmp_any (c d : Cn) (w : World) :
  Calls Tryz.prog 139 #[.agg #[.int .i64 (c.w : Nat), .slice c.a c.n c.c], .agg #[.int .i64 (d.w : Nat), .slice d.a d.n d.c]] w fun e w' => e = .returned (.int .i64 (cmpV c.w d.w)) /\ Below w.heap.size w w' := by
 obtain ⟨q0, q1⟩ := heap2 w (.cells #[.int .i64 (c.w : Nat), .slice c.a c.n c.c] 222) (.cells #[.int .i64 (d.w : Nat), .slice d.a d.n d.c] 222);have B0 := hd_ (((Below.refl w.heap.size w).alloc (Nat.le_refl _) (.cells #[.int .i64 (c.w : Nat), .slice c.a c.n c.c] 222)).alloc (by simp) (.cells #[.int .i64 (d.w : Nat), .slice d.a d.n d.c] 222));have Q0 := hd_ q0;have Q1 := hd_ q1;have A2 := hd_ (fun w => compare_any c.w d.w w);obtain ⟨z, hz⟩ : ∃ z, cmpV c.w d.w = z := ⟨_, rfl⟩;rw [hz] at A2 ⊢;clear q0 q1 hz;go_enter Tryz.func139, Tryz.ntmps139
 go_upto_region 1 with (fail)
 generalize (w.alloc (.cells #[.int .i64 (c.w : Nat), .slice c.a c.n c.c] 222)).alloc (.cells #[.int .i64 (d.w : Nat), .slice d.a d.n d.c] 222) = w1 at *;have x0 := (cr_ w1 0 Q0.out (Value.int .i64 (c.w : Nat)) rfl);have y0 := (cr_ w1 0 Q1.out (Value.int .i64 (d.w : Nat)) rfl);go_wp2_with fail
 refine (A2.out _).mono ?_;rintro e w2 ⟨rfl, rfl⟩;go_wp2_with fail
 go_ret
 exact ⟨rfl, B0.out⟩
theorem kcmp_grown (c d : Cn) (w : World) : ∃ z : Int, (z < 0 ↔ c.w < d.w) /\ ∀ q os, Calls Tryz.prog 139 #[.agg #[.int .i64 (c.w : Nat), .slice c.a c.n c.c], .agg #[.int .i64 (d.w : Nat), .slice d.a d.n d.c]] (grow (redrawn w q) os) fun e w'' => e = .returned (.int .i64 z) /\ ∃ p : Regrown, w'' = grow (redrawn w p.d) p.os :=
 ⟨cmpV c.w d.w, by rw [cmpV_neg]; omega, fun q os => Calls.regrown_of (kcmp_any c d _)⟩
theorem kinsertion_any (base b cap : Nat) (t : List Cn) (x y : Nat) (w : World) (h : RowK base w b cap t) (hxy : x <= y) (hy : y <= t.length) (hl : t.length <= 1099511627776) :
  Calls Tryz.prog 175 #[.slice (some ⟨b, 0, none⟩) t.length cap, .int .i64 x, .int .i64 y, .func (.func 139) #[] #[]] w (SortPost base b cap x y t w) := by
 have HR := hd_ h;obtain ⟨n, hn⟩ : ∃ n, t.length = n := ⟨_, rfl⟩;rw [hn] at hy hl ⊢;have HN := hd_ hn;clear h hn;go_enter Tryz.func175, Tryz.ntmps175
 go_wp2_with fail
 go_loopg [8] (y + 1 - (x + 1)) (fun gk s8 wr => ∃ (i : Nat) (t1 : List Cn), x + 1 <= i /\ i <= y + 1 /\ gk = y + 1 - i /\ s8 = .int .i64 i /\ so.PermIn Cn.zero x y t t1 /\ so.Srt Cn.w (so.at' Cn.zero t1) x i /\ RowK base wr b cap t1 /\ w.grownBy wr (some b))
 case atStart => exact ⟨x + 1, t, Nat.le_refl _, by omega, rfl, by go_num, so.PermIn.refl _ _ _ _, fun i j _ _ _ => by omega, HR.out, World.grownBy.refl _ _⟩
 case round =>
  obtain ⟨i, t1, hi1, hi2, hg, rfl, hm, hs, hr, hgw⟩ := hrel;have Hg := hd_ hg;have HM := hd_ hm;have HSo := hd_ hs;have HRr := hd_ hr;have HG := hd_ hgw;clear hg hm hs hr hgw;by_cases hlt : i < y
  ·have hlt' : (i : Int) < (y : Int) := by omega
   go_wp2_with fail
   go_loopg [9] i (fun gk s9 wx => ∃ (j : Nat) (t1 : List Cn), x <= j /\ j <= i /\ gk = j /\ s9 = .int .i64 j /\ so.PermIn Cn.zero x y t t1 /\ so.Ins Cn.w (so.at' Cn.zero t1) x i j /\ RowK base wx b cap t1 /\ w.grownBy wx (some b))
   case atStart => exact ⟨i, t1, by omega, Nat.le_refl _, rfl, rfl, HM.out, so.Ins.start HSo.out, HRr.out, HG.out⟩
   case round =>
    obtain ⟨j, t1, hj1, hj2, hg2, rfl, hm, hin, hr, hgw⟩ := hrel;have Hg2 := hd_ hg2;have HM1 := hd_ hm;have HIN := hd_ hin;have HR1 := hd_ hr;have HG1 := hd_ hgw;have HL1 := hd_ (hm.perm.length_eq.trans HN.out);clear hg2 hm hin hr hgw HM HRr HG HSo;by_cases hja : x < j
    ·have hja' : decide (x < j) = true := decide_eq_true hja
     obtain ⟨yi, hyi⟩ : ∃ yi, j - 1 = yi := ⟨_, rfl⟩;obtain ⟨cx, hcx⟩ : ∃ cx, t1[j]? = some cx := ⟨_, List.getElem?_eq_getElem (by have := HL1.out; omega)⟩;obtain ⟨cy, hcy⟩ : ∃ cy, t1[yi]? = some cy := ⟨_, List.getElem?_eq_getElem (by have := HL1.out; omega)⟩;have HCX := hd_ hcx;have HCY := hd_ hcy;have sy : (j : Int) - 1 = (yi : Int) := (by omega);have bx : (j : Int) < (n : Int) := (by omega);have by' : (yi : Int) < (n : Int) := (by omega);have HYJ : Hid (yi + 1 = j) := hd_ (by omega);have HKX : Hid (so.at' Cn.zero t1 j = cx /\ so.at' Cn.zero t1 yi = cy) := hd_ (by unfold so.at'; rw [List.getD_eq_getElem?_getD, List.getD_eq_getElem?_getD, hcx, hcy]; exact ⟨rfl, rfl⟩);obtain ⟨z, hz0, hz⟩ := kcmp_grown cx cy wr;have HZ := hd_ hz;have HZ0 := hd_ hz0;have u0 := cell_regrown (HR1.out.cell hcx (f := 0) (by decide) rfl);have u1 := cell_regrown (HR1.out.cell hcx (f := 1) (by decide) rfl);have v0 := cell_regrown (HR1.out.cell hcy (f := 0) (by decide) rfl);have v1 := cell_regrown (HR1.out.cell hcy (f := 1) (by decide) rfl);rw [Nat.add_zero] at u0 v0;clear hcx hcy hyi hz hz0;go_wp2_with fail
     refine wp_region_quiet_below (by kernel_rfl) (by kernel_rfl) ?_
     repeat (go_big_quiet_step (exact HZ.out _ _))
     refine wpQuiet_nil ?_;intro _ hw';obtain ⟨⟨dq, osq⟩, hw''⟩ := hw';subst hw'';have hbq := below_regrown wr dq osq;have hr1' := HR1.out.below hbq;have HG2 := hd_ (HG1.out.trans (grown_some (row := some b) hbq));clear u0 u1 v0 v1 HZ hja' HR1;have HR1 := hd_ hr1';clear hbq hr1';generalize grow (redrawn wr dq) osq = w4 at *;by_cases hz0 : z < 0
     ·have hz1 : decide (z < 0) = true := decide_eq_true hz0
      have HLT := hd_ (HZ0.out.1 hz0);rw [hz1];clear hz0 hz1;go_upto_region 6 with (fail)
      obtain ⟨x0, x1, y0, y1, f0, f1, g0, g1, h0, h1⟩ := HR1.out.swF HCX.out HCY.out (by have := HYJ.out; omega);go_region
      go_wp2_with fail
      go_roundg yi
      case measure => have := Hg2.out; have := HYJ.out; omega
      case rel =>
       obtain ⟨hr5, hg5⟩ := HR1.out.swW HCX.out HCY.out;have hxn : j < t1.length := (List.getElem?_eq_some_iff.1 HCX.out).1;have hyn : yi < t1.length := (List.getElem?_eq_some_iff.1 HCY.out).1;have hj := HYJ.out;refine ⟨yi, so.swL Cn.zero t1 j yi, by omega, by omega, rfl, by rw [<- sy], HM1.out.sw (by omega) (by omega) (by have := HL1.out; omega), ?_, hr5.below (Below.drew (Below.refl _ _)), HG2.out.trans (hg5.trans (grown_some (Below.drew (Below.refl _ _))))⟩;rw [so.swL_at _ _ hxn hyn];have hi := HIN.out;rw [<- hj] at hi;have := hi.step (by omega) (by omega) (by rw [hj, HKX.out.1, HKX.out.2]; exact HLT.out)
       rwa [hj] at this
     ·have hz1 : decide (z < 0) = false := decide_eq_false hz0
      have HLT := hd_ (fun h => hz0 (HZ0.out.2 h));rw [hz1];clear hz0 hz1;go_wp2_with fail
      go_roundg (y + 1 - (i + 1))
      case measure => have := Hg.out; omega
      case rel =>
       refine ⟨i + 1, t1, by omega, by omega, rfl, by go_num, HM1.out, HIN.out.stop hj2 (.inr ?_), HR1.out, HG2.out⟩;have hj := HYJ.out;rw [show j - 1 = yi by omega, HKX.out.1, HKX.out.2];have : ¬ cx.w < cy.w := HLT.out;show cy.w <= cx.w;omega
    ·have hja' : decide (x < j) = false := decide_eq_false hja
     go_wp2_with fail
     refine wp_region_quiet_below (by kernel_rfl) (by kernel_rfl) ?_
     repeat (go_big_quiet_step (fail))
     refine wpQuiet_nil ?_;intro _ hw';obtain ⟨⟨dq, osq⟩, hw''⟩ := hw';subst hw'';have hbq := below_regrown wr dq osq;have HR2 := hd_ (HR1.out.below hbq);have HG2 := hd_ (HG1.out.trans (grown_some (row := some b) hbq));clear hbq;generalize grow (redrawn wr dq) osq = w4 at *;go_wp2_with fail
     go_roundg (y + 1 - (i + 1))
     case measure => have := Hg.out; omega
     case rel => exact ⟨i + 1, t1, by omega, by omega, rfl, by go_num, HM1.out, HIN.out.stop hj2 (.inl (by omega)), HR2.out, HG2.out⟩
  ·have hlt' : ¬ (i : Int) < (y : Int) := by omega
   go_wp2_with fail
   refine bodyPost_end (results_none rfl _ _ _) rfl ?_;exact ⟨rfl, t1, HM.out, HSo.out.part (Nat.le_refl _) (by omega), HRr.out, HG.out⟩
end Go.Proofs.YthpckmcgbmfmcaaGreatDoor
