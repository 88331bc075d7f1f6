/- Texts of this claim, joined. -/
import Derived.Test.YthpckmcgbmfmcaaGreatDoorM30
import Derived.Test.YthpckmcgbmfmcaaGreatDoorM32
set_option maxRecDepth 100000
set_option maxHeartbeats 12800000
namespace Go.Proofs.YthpckmcgbmfmcaaGreatDoor
open Go.RowKit Go.Sort
namespace df
theorem flatMap_split {α : Type} (f : Nat -> List α) {l : List Nat} {i : Nat} (h : i < l.length) : l.flatMap f = (l.take i).flatMap f ++ (f (l.getD i 0) ++ (l.drop (i + 1)).flatMap f) := by
 have h1 := take_snocN h;have h2 : l = l.take (i + 1) ++ l.drop (i + 1) := (List.take_append_drop _ _).symm
 conv => lhs; rw [h2, List.flatMap_append, h1, List.flatMap_append, List.flatMap_singleton, List.append_assoc]
def lenF (C : List Nat) (i s : Nat) : Nat := if s ∈ order.take i then C.getD s 0 else 0
theorem order_all (s : Nat) (h : s < 19) : s ∈ order := by
 have key : ∀ s, s < 19 -> s ∈ order := by decide
 exact key s h
theorem lenF_here (C : List Nat) {i : Nat} (h : i < 19) : lenF C (i + 1) (order.getD i 0) = C.getD (order.getD i 0) 0 := by
 unfold lenF;rw [take_snocN (ls := order) h, if_pos (by simp)]
theorem lenF_other (C : List Nat) {i s : Nat} (h : i < 19) (hs : s ≠ order.getD i 0) : lenF C (i + 1) s = lenF C i s := by
 unfold lenF;rw [take_snocN (ls := order) h];by_cases h1 : s ∈ order.take i
 ·rw [if_pos h1, if_pos (List.mem_append_left _ h1)]
 ·rw [if_neg h1, if_neg]
  intro h2;rcases List.mem_append.1 h2 with h3 | h3
  ·exact h1 h3
  ·exact hs (List.mem_singleton.1 h3)
end df
theorem if_cells {b0 r x : Nat} {w w' : World} {b1 sb n c P most : Nat} {d out : List Int} {v : Value} (hi : Ir b0 b1 w x r sb n c d P most out v) (hf : If b0 r x w w') {j : Nat} {cc : Array Value} {t : TypeId} (hj : w.heap[j]? = some (.cells cc t (0, 0))) (h1 : t ≠ 195) (h2 : t ≠ 121) (h3 : t ≠ 5) : w'.heap[j]? = some (.cells cc t (0, 0)) := by
 refine hf.others j _ hj (fun e => ?_) (fun e => ?_) (fun c' fz e => ?_)
 ·exact ne_of_types hj hi.rd.head h1 e
 ·exact ne_of_types hj hi.head h2 e
 ·injection e with _ e _
  exact h3 e
theorem OwnN.iff {base b0 r x : Nat} {w w' : World} {b1 sb n c P most : Nat} {d out : List Int} {v u : Value} {ls : List Nat} (h : OwnN base w u ls) (hi : Ir b0 b1 w x r sb n c d P most out v) (hf : If b0 r x w w') : OwnN base w' u ls := by
 unfold OwnN World.ownsRow at h ⊢;refine ⟨h.1, ?_⟩;rcases h.2 with h1 | ⟨g', cap, cur, e, a1, a2, a3⟩
 ·exact .inl h1
 ·exact .inr ⟨g', cap, cur, e, a1, if_cells hi hf a2 (by decide) (by decide) (by decide), a3⟩
theorem If.grown' {b0 r x : Nat} {w w' w'' : World} {ob : Option Nat} (h : If b0 r x w w') (hg : w'.grownBy w'' ob) (hb : b0 <= w'.heap.size) (hob : ∀ k, ob = some k -> w.heap.size <= k /\ b0 <= k) : If b0 r x w w'' := by
 refine ⟨h.below.grown hg hb (fun k e => (hob k e).2), fun j o hj h1 h2 h3 => ?_⟩;have h4 := h.others j o hj h1 h2 h3;refine (hg.block j (block_lt h4) (fun e => ?_)).trans h4;have := (hob j e.symm).1;have := block_lt hj;omega
theorem Ir.kept {b0 b1 x r sb n c P most : Nat} {w w' : World} {d out : List Int} {v : Value} (h : Ir b0 b1 w x r sb n c d P most out v) {ob : Option Nat} (hg : w.grownBy w' ob) (hob : ∀ k, ob = some k -> b1 <= k /\ ∃ cur, w.heap[k]? = some (.cells cur 3 (0, 0))) : Ir b0 b1 w' x r sb n c d P most out v := by
 have nx : some x ≠ ob := fun e => by
  obtain ⟨cur, hc⟩ := (hob x e.symm).2;exact ne_of_types h.head hc (by decide) rfl
 have nr : some r ≠ ob := fun e => by
  obtain ⟨cur, hc⟩ := (hob r e.symm).2;exact ne_of_types h.rd.head hc (by decide) rfl
 have nsb : some sb ≠ ob := fun e => by
  have := (hob sb e.symm).1;have := h.hsb;omega
 refine ⟨grown_block hg h.head nx, ⟨grown_block hg h.rd.head nr, h.rd.data.kept hg nsb, h.rd.apart, h.rd.small⟩, World.ownsRow.kept h.row hg ?_, h.hx, h.hr, h.hb, h.hsb, Nat.le_trans h.hw hg.size, h.fits, h.small⟩;cases hob' : ob with
 | none =>
  cases hv : v.ownBlock with
  | none => exact .inl rfl
  | some k => exact .inr (by simp)
 | some k =>
  obtain ⟨cur, hc⟩ := (hob k hob').2;exact row_apart h.row hc (by decide)
theorem df.order_len (C : List Nat) (i : Nat) (h : i <= 19) : ((df.order.take i).flatMap fun k => bt.bitsOf false (C.getD k 0) 3).length = 3 * i := by
 have key : ∀ R : List Nat, (R.flatMap fun k => bt.bitsOf false (C.getD k 0) 3).length = 3 * R.length := by
  intro R
  induction R with
  | nil => simp
  | cons a r ih =>
   rw [List.flatMap_cons, List.length_append, bt.bitsOf_length, List.length_cons];omega
 rw [key, List.length_take];show 3 * min i 19 = _;omega
theorem nz_pos {C : List Nat} {s : Nat} (h : 1 <= C.getD s 0) : pf.nz C ≠ 0 := by
 unfold pf.nz;intro h0;rw [List.countP_eq_zero] at h0;rcases Nat.lt_or_ge s C.length with hs | hs
 ·exact h0 _ (pf.getD_mem hs) (decide_eq_true h)
 ·rw [List.getD_eq_getElem?_getD, List.getElem?_eq_none hs] at h
  simp at h
theorem own_nat {base : Nat} {w : World} {v : Value} {ls : List Nat} (h : OwnN base w v ls) : ∀ b, v.ownBlock = some b -> base <= b /\ b < w.heap.size /\ ∃ cur, w.heap[b]? = some (.cells cur 3 (0, 0)) := by
 intro b hb;rcases h.2 with ⟨h', _⟩ | ⟨g, cap, cur, h', h1, h2, _⟩
 ·rw [h'] at hb
  cases hb
 ·rw [h'] at hb
  obtain rfl : g = b := Option.some.inj hb;exact ⟨h1, block_lt h2, cur, h2⟩
theorem Dec.kept {base g : Nat} {w w' : World} {ls : List Nat} {tv : Value} (h : Dec base w g ls tv) {ob : Option Nat} (hg : w.grownBy w' ob) (h1 : ∀ k, ob = some k -> tv.ownBlock ≠ some k /\ ∃ cur, w.heap[k]? = some (.cells cur 3 (0, 0))) : Dec base w' g ls tv := by
 refine ⟨grown_block hg h.head (fun e => ?_), World.ownsRow.kept h.tab hg ?_, h.lies⟩
 ·obtain ⟨cur, hc⟩ := (h1 g e.symm).2
  exact ne_of_types h.head hc (by decide) rfl
 ·cases hv : tv.ownBlock with
  | none => exact .inl rfl
  | some k => exact .inr (fun e => (h1 k e.symm).1 hv)
def NewD (base : Nat) (ls : List Nat) (v : Value) (w : World) : Prop := ∃ g t, v = .pointer (some ⟨g, 0, none⟩) /\ Dec base w g ls t
theorem NewD.below {base : Nat} {ls : List Nat} {v : Value} {w w' : World} (h : NewD base ls v w) (hb : Below w.heap.size w w') : NewD base ls v w' := by
 obtain ⟨g, t, h1, h2⟩ := h;exact ⟨g, t, h1, h2.below6 hb⟩
theorem size19 : (Tryz.prog.info? 193).map (fun x => x.size) = some (#[.int .i64 16, .int .i64 17, .int .i64 18, .int .i64 0, .int .i64 8, .int .i64 7, .int .i64 9, .int .i64 6, .int .i64 10, .int .i64 5, .int .i64 11, .int .i64 4, .int .i64 12, .int .i64 3, .int .i64 13, .int .i64 2, .int .i64 14, .int .i64 1, .int .i64 15] : Array Value).size := by kernel_rfl
theorem sizes19 : (#[.int .i64 0, .int .i64 0, .int .i64 0, .int .i64 0, .int .i64 0, .int .i64 0, .int .i64 0, .int .i64 0, .int .i64 0, .int .i64 0, .int .i64 0, .int .i64 0, .int .i64 0, .int .i64 0, .int .i64 0, .int .i64 0, .int .i64 0, .int .i64 0, .int .i64 0] : Array Value).size = (#[.int .i64 16, .int .i64 17, .int .i64 18, .int .i64 0, .int .i64 8, .int .i64 7, .int .i64 9, .int .i64 6, .int .i64 10, .int .i64 5, .int .i64 11, .int .i64 4, .int .i64 12, .int .i64 3, .int .i64 13, .int .i64 2, .int .i64 14, .int .i64 1, .int .i64 15] : Array Value).size := by decide +kernel
theorem one19 : (#[.int .i64 16, .int .i64 17, .int .i64 18, .int .i64 0, .int .i64 8, .int .i64 7, .int .i64 9, .int .i64 6, .int .i64 10, .int .i64 5, .int .i64 11, .int .i64 4, .int .i64 12, .int .i64 3, .int .i64 13, .int .i64 2, .int .i64 14, .int .i64 1, .int .i64 15] : Array Value).all (·.oneCell') = true := by decide +kernel
def Ir.DynPost (b0 b1 x r sb n c : Nat) (d : List Int) (P most : Nat) (out : List Int) (v : Value) (Lt Dt : List Nat) (w : World) (e : Ending) (w' : World) : Prop :=
 ∃ g1 g2 t1 t2, e = .returned (.tuple #[.pointer (some ⟨g1, 0, none⟩), .pointer (some ⟨g2, 0, none⟩)]) /\ Dec w.heap.size w' g1 Lt t1 /\ Dec w.heap.size w' g2 Dt t2 /\ Ir b0 b1 w' x r sb n c d P most out v /\ If b0 r x w w'
theorem idynamic_any {b0 b1 x r sb n c P most : Nat} {w : World} {L : List Bool} {out : List Int} {v : Value} (h : Ir b0 b1 w x r sb n c (bt.bytes false L) P most out v) (hn : n = (L.length + 7) / 8)
  {Lt Dt C : List Nat} (l1 : Lt.length = 286) (l2 : Dt.length = 30) (l3 : C.length = 19) (mL : df.Made Lt) (mD : df.Made Dt) (mC : df.Made C) (c7 : ∀ l ∈ C, l <= 7) (cp : ∀ l ∈ Lt ++ Dt, 1 <= C.getD l 0) (e2 : 1 <= Lt.getD 256 0)
  (A B : List Bool) (hL : L = A ++ (df.headBits C (Lt ++ Dt) ++ B)) (hA : A.length = P) :
  Calls Tryz.prog 65 #[.pointer (some ⟨x, 0, none⟩)] w (Ir.DynPost b0 b1 x r sb n c (bt.bytes false L) (P + (df.headBits C (Lt ++ Dt)).length) most out v Lt Dt w) := by
 have HI := hd_ h;have HN := hd_ hn;have HLL := hd_ (And.intro l1 (And.intro l2 l3));have HML := hd_ mL;have HMD := hd_ mD;have HMC := hd_ mC;have HC7 := hd_ c7;have HCP := hd_ cp;have HE2 := hd_ e2;have HI0 := hd_ (And.intro h.hb h.hw);obtain ⟨R, hR⟩ : ∃ z, Lt ++ Dt = z := ⟨_, rfl⟩;rw [hR] at hL HCP;have HRL : Hid (R.length = 316) := hd_ (by rw [<- hR, List.length_append, l1, l2]);have HR15 : Hid (∀ z ∈ R, z <= 15) := hd_ (fun z hz => by
  rw [<- hR] at hz;rcases List.mem_append.1 hz with h | h
  ·exact mL.le z h
  ·exact mD.le z h)
 have HRE := hd_ hR;unfold df.headBits at hL;simp only [List.append_assoc] at hL;obtain ⟨p1, q1⟩ := df.take_at hL (by decide);have hL2 : L = (A ++ bt.bitsOf false 29 5) ++ (bt.bitsOf false 29 5 ++ (bt.bitsOf false 15 4 ++ (df.order.flatMap (fun k => bt.bitsOf false (C.getD k 0) 3) ++ (R.flatMap (fun l => df.sb C l) ++ B)))) := by rw [hL]; simp only [List.append_assoc]
 obtain ⟨p2, q2⟩ := df.take_at hL2 (by decide);have hL3 : L = (A ++ bt.bitsOf false 29 5 ++ bt.bitsOf false 29 5) ++ (bt.bitsOf false 15 4 ++ (df.order.flatMap (fun k => bt.bitsOf false (C.getD k 0) 3) ++ (R.flatMap (fun l => df.sb C l) ++ B))) := by rw [hL]; simp only [List.append_assoc]
 obtain ⟨p3, q3⟩ := df.take_at hL3 (by decide);have HL4 : Hid (L = (A ++ bt.bitsOf false 29 5 ++ bt.bitsOf false 29 5 ++ bt.bitsOf false 15 4) ++ (df.order.flatMap (fun k => bt.bitsOf false (C.getD k 0) 3) ++ (R.flatMap (fun l => df.sb C l) ++ B))) := hd_ (by rw [hL]; simp only [List.append_assoc]);obtain ⟨A4, hA4⟩ : ∃ z, A ++ bt.bitsOf false 29 5 ++ bt.bitsOf false 29 5 ++ bt.bitsOf false 15 4 = z := ⟨_, rfl⟩;have HA4 : Hid (A4.length = P + 14) := hd_ (by rw [<- hA4]; simp only [List.length_append, bt.bitsOf_length, hA]);rw [hA4] at HL4;rw [hA] at p1 q1;rw [List.length_append, bt.bitsOf_length, hA] at p2 q2;rw [List.length_append, List.length_append, bt.bitsOf_length, hA] at p3 q3;have HQ := hd_ (And.intro p1 (And.intro p2 p3));have HQ2 := hd_ (And.intro q2 q3);have T1 := hd_ (itake_any h hn 5 (by decide) (by omega));rw [q1] at T1;have mk : ∀ w, (Instr.makeSlice 59 (.int .i64 19) (.int .i64 19)).run Tryz.prog w = .ok (.slice (some ⟨w.heap.size, 0, none⟩) 19 19) (w.alloc (.cells (fRow .i64 (fun _ => 0) 19) 3)) := make_i64 19 (by decide);have MK := hd_ mk;clear h hn l1 l2 l3 mL mD mC c7 cp e2 hR hL hL2 hL3 hA p1 q1 p2 q2 p3 q3 hA4 mk;go_enter Tryz.func65, Tryz.ntmps65
 go_wp2_with fail
 refine T1.out.mono ?_;rintro e w1 ⟨rfl, hi1, hf1⟩;have HI1 := hd_ hi1;have HF1 := hd_ hf1;have T2 := hd_ (itake_any hi1 HN.out 5 (by decide) (by have := HQ.out.2.1; have := HN.out; omega));rw [HQ2.out.1] at T2;clear hi1 hf1 T1 HI;go_wp2_with fail
 refine T2.out.mono ?_;rintro e w2 ⟨rfl, hi2, hf2⟩;have HI2 := hd_ hi2;have HF2 := hd_ (HF1.out.trans hf2);have T3 := hd_ (itake_any hi2 HN.out 4 (by decide) (by have := HQ.out.2.2; have := HN.out; omega));rw [HQ2.out.2] at T3;clear hi2 hf2 T2 HI1 HF1;go_wp2_with fail
 refine T3.out.mono ?_;rintro e w3 ⟨rfl, hi3, hf3⟩;have HI3 := hd_ hi3;have HF3 := hd_ (HF2.out.trans hf3);clear hi3 hf3 T3 HI2 HF2;go_upto_region 5 with (with_reducible refine wpList_store_row rfl 193 _ _ rfl w3.heap.size _ rfl rfl 193 _ (heap_alloc_last _ _) size19 sizes19 one19 ?_; rw [World.setRow_alloc_new])
 have hb4 : Below w3.heap.size w3 (w3.alloc (.cells (fRow .i64 (fun i => df.order.getD i 0) 19) 193)) := (Below.refl _ _).alloc (Nat.le_refl _) _;have hn4 := heap_alloc_new w3 (.cells (fRow .i64 (fun i => df.order.getD i 0) 19) 193 (0, 0));rw [show w3.alloc (Obj.cells #[.int .i64 16, .int .i64 17, .int .i64 18, .int .i64 0, .int .i64 8, .int .i64 7, .int .i64 9, .int .i64 6, .int .i64 10, .int .i64 5, .int .i64 11, .int .i64 4, .int .i64 12, .int .i64 3, .int .i64 13, .int .i64 2, .int .i64 14, .int .i64 1, .int .i64 15] 193) = w3.alloc (.cells (fRow .i64 (fun i => df.order.getD i 0) 19) 193) from rfl];obtain ⟨w4, hw4⟩ : ∃ z, w3.alloc (.cells (fRow .i64 (fun i => df.order.getD i 0) 19) 193) = z := ⟨_, rfl⟩;obtain ⟨kb, hkb⟩ : ∃ z, w3.heap.size = z := ⟨_, rfl⟩;rw [hw4] at hb4 hn4 ⊢;rw [hkb] at hn4 ⊢;have hb5 : Below w4.heap.size w4 (w4.alloc (.cells (fRow .i64 (fun _ => 0) 19) 3)) := (Below.refl _ _).alloc (Nat.le_refl _) _;have hn5 := heap_alloc_new w4 (.cells (fRow .i64 (fun _ => 0) 19) 3 (0, 0));have hmk := MK.out w4;obtain ⟨w5, hw5⟩ : ∃ z, w4.alloc (.cells (fRow .i64 (fun _ => 0) 19) 3) = z := ⟨_, rfl⟩;obtain ⟨lb, hlb⟩ : ∃ z, w4.heap.size = z := ⟨_, rfl⟩;rw [hw5] at hb5 hn5 hmk;rw [hlb] at hn5 hmk;obtain ⟨hi4, hf4⟩ := HI3.out.below hb4;obtain ⟨hi5, hf5⟩ := hi4.below hb5;have HI5 := hd_ hi5;have HF5 := hd_ ((HF3.out.trans hf4).trans hf5);have HK5 := hd_ ((hb5.block _ (block_lt hn4)).trans hn4);have HL5 := hd_ hn5;have HWL : Hid (b0 <= lb /\ w.heap.size <= lb) := hd_ (by
  have h1 := (HF3.out.trans hf4).below.size;have h2 := HI3.out.hb;have h3 := HI3.out.hw;have h4 := hb4.size;omega)
 clear hb4 hn4 hw4 hkb hb5 hn5 hw5 hlb hi4 hf4 hi5 hf5 HI3 HF3 MK;go_wp2_with fail
 clear hmk;go_loopg [36] 19 (fun gk s36 wr => ∃ i : Nat, i <= 19 /\ gk = 19 - i /\ s36 = .int .i64 (i : Nat) /\ Ir b0 b1 wr x r sb n c (bt.bytes false L) (P + 14 + 3 * i) most out v /\ If b0 r x w wr /\ wr.heap[kb]? = some (.cells (fRow .i64 (fun i => df.order.getD i 0) 19) 193 (0, 0)) /\ wr.heap[lb]? = some (.cells (fRow .i64 (df.lenF C i) 19) 3 (0, 0)))
 case atStart => exact ⟨0, Nat.zero_le _, rfl, by go_num, HI5.out, HF5.out, HK5.out, HL5.out⟩
 case round =>
  obtain ⟨i, hi, hg, rfl, hir, hif, hk, hl⟩ := hrel;have Hg := hd_ hg;have HIR := hd_ hir;have HIF := hd_ hif;have HK := hd_ hk;have HL := hd_ hl;clear hg hir hif hk hl HI5 HF5 HK5 HL5;by_cases hlt : i < 19
  ·have k0 := fRow_cell HK.out hlt
   have hk19 := df.order_get i hlt;have hsp := HL4.out;rw [df.flatMap_split (fun k => bt.bitsOf false (C.getD k 0) 3) (l := df.order) (i := i) hlt] at hsp;have hsp2 : L = (A4 ++ (df.order.take i).flatMap (fun k => bt.bitsOf false (C.getD k 0) 3)) ++ (bt.bitsOf false (C.getD (df.order.getD i 0) 0) 3 ++ ((df.order.drop (i + 1)).flatMap (fun k => bt.bitsOf false (C.getD k 0) 3) ++ (R.flatMap (fun l => df.sb C l) ++ B))) := by
    rw [hsp];simp only [List.append_assoc]
   have hc7 := HC7.out (C.getD (df.order.getD i 0) 0) (pf.getD_mem (by rw [HLL.out.2.2]; exact hk19));obtain ⟨a1, a2⟩ := df.take_at hsp2 (by omega);rw [List.length_append, HA4.out, df.order_len C i (by omega)] at a1 a2;have T := hd_ (itake_any HIR.out HN.out 3 (by decide) (by have := HN.out; omega));rw [a2] at T;have HLE := hd_ (df.lenF_here C hlt);have HLO := hd_ (fun s hs => df.lenF_other C (s := s) hlt hs);obtain ⟨k, hk⟩ : ∃ z, df.order.getD i 0 = z := ⟨_, rfl⟩;rw [hk] at k0 hk19 hc7 T HLE HLO;obtain ⟨y, hy⟩ : ∃ z, C.getD k 0 = z := ⟨_, rfl⟩;rw [hy] at hc7 T HLE;have hi1 : (i : Int) < 19 := (by omega);have hi2 : ¬ 19 = i := (by omega);have hk1 : (k : Int) < 19 := (by omega);have hk2 : ¬ 19 = k := (by omega);clear hsp hsp2 a1 a2 hk hy;go_wp2_with fail
   refine T.out.mono ?_;rintro e w6 ⟨rfl, hi6, hf6⟩;have HK6 := hd_ (if_cells HIR.out hf6 HK.out (by decide) (by decide) (by decide));have hl6 := if_cells HIR.out hf6 HL.out (by decide) (by decide) (by decide);have HIF6 := hd_ (HIF.out.trans hf6);have HIR6 := hd_ hi6;have l0 := fRow_cell hl6 hk19;have fl := frozen_of_row w6 lb k _ _ hl6;have HL7 := hd_ (fRow_store (j := k) hl6 (df.lenF C (i + 1)) y HLE.out (fun s _ hs => HLO.out s hs));have hgs := grownBy_setCell3 w6 lb k (.int .i64 (y : Nat));have HK7 := hd_ (grown_block hgs HK6.out (fun e => by have := Option.some.inj e; exact ne_of_types HK6.out hl6 (by decide) this));have HIR7 := hd_ (hi6.kept hgs (fun z e => by obtain rfl := Option.some.inj e; exact ⟨Nat.le_trans HI0.out.2 HWL.out.2, _, hl6⟩));have HIF7 := hd_ (HIF6.out.grown' hgs (Nat.le_trans hi6.hb hi6.hw) (fun z e => by obtain rfl := Option.some.inj e; exact ⟨HWL.out.2, HWL.out.1⟩));clear hi6 hf6 hl6 hgs T HIR HIF HK HL HK6 HIF6 HIR6;go_wp2_with fail
   go_roundg (19 - (i + 1))
   case measure => have := Hg.out; omega
   case rel => exact ⟨i + 1, by omega, rfl, by go_num, HIR7.out, HIF7.out, HK7.out, HL7.out⟩
  ·obtain rfl : i = 19 := by omega
   have hsl : Sl .i64 wr (some ⟨lb, 0, none⟩) 19 19 (nats C) := fRow_sl HL.out HLL.out.2.2 (fun s hs => by unfold df.lenF; rw [show df.order.take 19 = df.order from rfl, if_pos (df.order_all s hs)]) (by decide) (fun z hz => Nat.le_trans (HC7.out z hz) (by decide));have hr0 : R.getD 0 0 ∈ R := pf.getD_mem (by rw [HRL.out]; decide);have hnz := nz_pos (HCP.out _ hr0);have hkr : pf.kraft C = 65536 \/ (pf.nz C = 1 /\ pf.one C = true) \/ (false = true /\ pf.nz C = 0) := by
    rcases HMC.out.kraft with h | h | h
    ·exact .inl h
    ·exact .inr (.inl h)
    ·exact absurd h hnz
   have CC := hd_ (code_any _ 19 19 C false wr hsl (by decide) HMC.out.ok hkr);clear hsl hr0 hnz hkr Hg hlt HK HL HC7;go_wp2_with fail
   refine CC.out.mono ?_;rintro e w6 ⟨g, tv, rfl, hd6, hb6⟩;obtain ⟨hi6, hf6⟩ := HIR.out.below hb6;have HI6 := hd_ hi6;have HF6 := hd_ (HIF.out.trans hf6);have HD6 := hd_ hd6;obtain ⟨B6, hB6⟩ : ∃ z, w6.heap.size = z := ⟨_, rfl⟩;have HTB : Hid (∀ k, tv.ownBlock = some k -> k < B6) := hd_ (fun k e => by rw [<- hB6]; exact (World.ownsRow.lt hd6.tab k e).2);have HB6 : Hid (w.heap.size <= B6 /\ b0 <= B6 /\ b1 <= B6 /\ B6 <= w6.heap.size) := hd_ (by
    have h1 := (HIF.out.trans hf6).below.size;have h2 := HI0.out;omega)
   clear hB6;clear hd6 hb6 hi6 hf6 CC HIR HIF;have hL7 : L = (A4 ++ df.order.flatMap (fun k => bt.bitsOf false (C.getD k 0) 3)) ++ (R.flatMap (fun l => df.sb C l) ++ B) := (by rw [HL4.out]; simp only [List.append_assoc]);obtain ⟨A7, hA7⟩ : ∃ z, A4 ++ df.order.flatMap (fun k => bt.bitsOf false (C.getD k 0) 3) = z := ⟨_, rfl⟩;rw [hA7] at hL7;have HA7 : Hid (A7.length = P + 14 + 3 * 19) := hd_ (by
    have h1 := df.order_len C 19 (by decide);rw [show df.order.take 19 = df.order from rfl] at h1;rw [<- hA7, List.length_append, h1, HA4.out])
   have HL7 := hd_ hL7;clear hL7 hA7;go_wp2_with fail
   go_loopg [13] 316 (fun gk s13 wr => ∃ i : Nat, i <= 316 /\ gk = 316 - i /\ OwnN B6 wr s13 (R.take i) /\ B6 <= wr.heap.size /\ Ir b0 b1 wr x r sb n c (bt.bytes false L) (P + 14 + 3 * 19 + ((R.take i).flatMap fun l => df.sb C l).length) most out v /\ If b0 r x w wr /\ ∃ ba, Dec ba wr g C tv)
   case atStart => exact ⟨0, Nat.zero_le _, rfl, World.ownsRow_nil _ _ _ _, HB6.out.2.2.2, HI6.out, HF6.out, _, HD6.out⟩
   case round =>
    obtain ⟨i, hi, hg, ho, hbs, hir, hif, ba, hd⟩ := hrel;have HBS := hd_ hbs;have Hg := hd_ hg;have HO := hd_ ho;have HIR := hd_ hir;have HIF := hd_ hif;have HD := hd_ hd;have htl : (R.take i).length = i := (by rw [List.length_take, HRL.out]; omega);obtain ⟨ra, rc, erv⟩ : ∃ a c, u13 = .slice a i c := by
     obtain ⟨a', c', e', _⟩ := own_slice' ho;exact ⟨a', c', by rw [<- htl]; exact e'⟩
    subst erv;clear hg ho hbs hir hif hd HI6 HF6 HD6;by_cases hlt : i < 316
    ·have hil : i < R.length := by rw [HRL.out]; exact hlt
     have hl15 := HR15.out _ (pf.getD_mem hil);have hcp := HCP.out _ (pf.getD_mem hil);have HTK := hd_ (take_snocN hil);have hsp := HL7.out;rw [df.flatMap_split (fun l => df.sb C l) hil] at hsp;have hsp2 : L = (A7 ++ (R.take i).flatMap (fun l => df.sb C l)) ++ (df.sb C (R.getD i 0) ++ ((R.drop (i + 1)).flatMap (fun l => df.sb C l) ++ B)) := by
      rw [hsp];simp only [List.append_assoc]
     obtain ⟨a1, a2⟩ := df.sb_at hsp2;rw [List.length_append, HA7.out] at a1 a2;have T := hd_ (inext_any HIR.out HN.out HD.out HMC.out.ok (R.getD i 0) (by rw [HLL.out.2.2]; omega) hcp a1 a2 (by rw [HLL.out.2.2]; decide));obtain ⟨l, hl⟩ : ∃ z, R.getD i 0 = z := ⟨_, rfl⟩;rw [hl] at hl15 T HTK;have hii : (i : Int) < 316 := (by omega);have v16 : ((l : Int) == 16) = false := (by simp; omega);have v17 : ((l : Int) == 17) = false := (by simp; omega);have v18 : ((l : Int) == 18) = false := (by simp; omega);have wsub : IntKind.i64.wrap (316 - (i : Int)) = ((316 - i : Nat) : Int) := i64o (by omega) (by omega);obtain ⟨rest, hrest⟩ : ∃ z, 316 - i = z := ⟨_, rfl⟩;rw [hrest] at wsub;have hr1 : ¬ (rest : Int) < 1 := (by omega);have htl2 := htl;clear hil hcp hsp hsp2 a1 a2 hl hrest;go_wp2_with fail
     refine T.out.mono ?_;rintro e w7 ⟨rfl, hi7, hf7⟩;have HO7 := hd_ (HO.out.iff HIR.out hf7);have HD7 := hd_ (HD.out.iff HIR.out hf7);have HIF7 := hd_ (HIF.out.trans hf7);have HF7X := hd_ hf7;have HIR7 := hd_ hi7;clear hi7 hf7 T HO HD HIF HIR;have HBS7 : Hid (B6 <= w7.heap.size) := hd_ (Nat.le_trans HBS.out HF7X.out.below.size);have hb8 : Below w7.heap.size w7 (w7.alloc (.cells #[.int .i64 (l : Nat)] 3)) := (Below.refl _ _).alloc (Nat.le_refl _) _;have HG8 := hd_ (heap_alloc_new w7 (.cells #[.int .i64 (l : Nat)] 3 (0, 0)));have HO8 := hd_ (HO7.out.below hb8);have HD8 := hd_ (HD7.out.below6 hb8);obtain ⟨hi8, hf8⟩ := HIR7.out.below hb8;have HIR8 := hd_ hi8;have HIF8 := hd_ (HIF7.out.trans hf8);have HBS8 := hd_ (Nat.le_trans HBS7.out hb8.size);have HTL : Hid ((R.take i).length <= 1099511627776) := hd_ (by rw [htl2]; omega);clear hb8 hi8 hf8 HO7 HD7 HIR7 HIF7;go_upto_region 28 with (fail)
     refine wp_loop_rounds 2 ?_;rw [rounds_succ];go_wp2_with (at_builtin; go_must (refine wpList_of_append rfl (.tmp 98) (.tmp 100) 59 59 rfl (run_append_nat _ _ B6 (.slice ra i rc) (R.take i) l HO8.out HTL.out HBS8.out w7.heap.size HG8.out) ?_; rintro v9 w9 ⟨ho9, hg9, _⟩; have HO9 := hd_ ho9; have HG9 := hd_ hg9; clear ho9 hg9))
     rw [rounds_succ];go_wp2_with fail
     have hob := own_nat HO8.out;have HD9 := hd_ (HD8.out.kept HG9.out (fun k e => ⟨fun e2 => by have h1 := (hob k e).1; have h2 := HTB.out k e2; omega, (hob k e).2.2⟩));have HIR9 := hd_ (HIR8.out.kept HG9.out (fun k e => ⟨Nat.le_trans HB6.out.2.2.1 (hob k e).1, (hob k e).2.2⟩));have HIF9 := hd_ (HIF8.out.grown' HG9.out (Nat.le_trans HB6.out.2.1 HBS8.out) (fun k e => ⟨Nat.le_trans HB6.out.1 (hob k e).1, Nat.le_trans HB6.out.2.1 (hob k e).1⟩));have HBS9 := hd_ (Nat.le_trans HBS8.out HG9.out.size);clear hob HO8 HD8 HIR8 HIF8;go_roundg (316 - (i + 1))
     case measure => have := Hg.out; omega
     case rel =>
      refine ⟨i + 1, by omega, rfl, by rw [HTK.out]; exact HO9.out, HBS9.out, ?_, HIF9.out, ba, HD9.out⟩;rw [HTK.out, List.flatMap_append, List.flatMap_singleton, List.length_append, df.sb_length, <- Nat.add_assoc];exact HIR9.out
    ·obtain rfl : i = 316 := by omega
     have htk : R.take 316 = R := List.take_of_length_le (by rw [HRL.out]; exact Nat.le_refl _);rw [htk] at HO HIR;obtain ⟨rb, rc', ev, _⟩ := own_form HO.out (by rw [HRL.out]; decide);rw [HRL.out] at ev;cases ev;have hsl : Sl .i64 wr (some ⟨rb, 0, none⟩) 316 rc (nats R) := by
      have h1 := HO.out;unfold OwnN at h1;rw [HRL.out] at h1;exact Fresh.sl h1 (nats_wf _ (fun z hz => Nat.le_trans (HR15.out z hz) (by decide)))
     have hrc := hsl.fits;have e1 : (nats R).take 286 = nats Lt := by
      unfold nats;rw [<- HRE.out, <- List.map_take, List.take_left' HLL.out.1]
     have e2 : (nats R).drop 286 = nats Dt := by
      unfold nats;rw [<- HRE.out, <- List.map_drop, List.drop_left' HLL.out.1]
     have sl1 := hsl.take (m := 286) (by decide);have sl2 := hsl.drop (m := 286) (by decide);rw [e1] at sl1;rw [e2] at sl2;have hkL : pf.kraft Lt = 65536 \/ (pf.nz Lt = 1 /\ pf.one Lt = true) \/ (false = true /\ pf.nz Lt = 0) := by
      rcases HML.out.kraft with h | h | h
      ·exact .inl h
      ·exact .inr (.inl h)
      ·exact absurd h (nz_pos HE2.out)
     have hkD : pf.kraft Dt = 65536 \/ (pf.nz Dt = 1 /\ pf.one Dt = true) \/ (true = true /\ pf.nz Dt = 0) := by
      rcases HMD.out.kraft with h | h | h
      ·exact .inl h
      ·exact .inr (.inl h)
      ·exact .inr (.inr ⟨rfl, h⟩)
     have C1 := hd_ (fun u (hb : Below wr.heap.size wr u) => code_any _ 286 rc Lt false u (sl1.below hb) (by decide) HML.out.ok hkL);have C2 := hd_ (fun u (hb : Below wr.heap.size wr u) => code_any (some ⟨rb, 286, none⟩) 30 (rc - 286) Dt true u (by have := sl2.below hb; rwa [Nat.zero_add] at this) (by decide) HMD.out.ok hkD);have k0 := hsl.cells (by decide);obtain ⟨rb', ro', er, hce⟩ := k0;cases er;have k256 := hce 256 (by decide);rw [nats_get, <- HRE.out, List.getD_eq_getElem?_getD, List.getElem?_append_left (by rw [HLL.out.1]; decide), <- List.getD_eq_getElem?_getD] at k256;have hne := HE2.out;obtain ⟨y, hy⟩ : ∃ z, Lt.getD 256 0 = z := ⟨_, rfl⟩;rw [hy] at k256 hne;have hne0 : ((y : Int) == 0) = false := (by simp; omega);have g1 : (286 : Int) <= (rc : Int) := (by omega);have g2 : ¬ rc = 286 := (by omega);have g3 : ¬ rc = 256 := (by omega);clear htk hsl e1 e2 sl1 sl2 hkL hkD hce hy Hg hlt;go_upto_region 33 with (fail)
     refine wp_region_any (by kernel_rfl) ?_;refine wpAny_laid_tails (D := fun i => ([109, 110, 111, 112, 113, 114, 115, 116, 117, 118] : List Nat).getD i 0)
      (R := fun rj v w' => match rj with
       | 0 => v = .slice (some ⟨rb, 0, none⟩) 316 rc
       | 1 => v = .int .i64 29
       | 2 => v = .int .i64 286
       | 3 => v = .slice (some ⟨rb, 0, none⟩) 286 rc
       | 4 => NewD w.heap.size Lt v w'
       | 5 => v = .slice (some ⟨rb, 0, none⟩) 316 rc
       | 6 => v = .int .i64 29
       | 7 => v = .int .i64 286
       | 8 => v = .slice (some ⟨rb, 286, none⟩) 30 (rc - 286)
       | 9 => NewD w.heap.size Dt v w'
       | _ => True)
      (S := fun a' w' => (a'.tmps[4]? = some (.int .i64 29) /\ a'.tmps[13]? = some (.slice (some ⟨rb, 0, none⟩) 316 rc)) /\ Below wr.heap.size wr w')
      10 (by decide) (by kernel_rfl) (by decide +kernel) (by decide +kernel) (by decide +kernel) (by decide +kernel) (by kernel_rfl) ?_ ?_ ?_ ?_
     ·intro i v u u' h hb
      match i, h with
      | 0, h => exact h
      | 1, h => exact h
      | 2, h => exact h
      | 3, h => exact h
      | 4, h => exact NewD.below h hb
      | 5, h => exact h
      | 6, h => exact h
      | 7, h => exact h
      | 8, h => exact h
      | 9, h => exact NewD.below h hb
      | i + 10, _ => trivial
     ·intro a' u hb _ hold
      exact ⟨⟨hold 4 (by decide), hold 13 (by decide)⟩, hb⟩
     ·refine ⟨?_, ?_, ?_, ?_, ?_, ?_, ?_, ?_, ?_, ?_, trivial⟩
      ·intro a' u hS hd
       clear hd;have g0 := hS.1.2;go_simp
       exact ⟨_, rfl, rfl, Below.refl _ _⟩
      ·intro a' u hS hd
       clear hd;have g0 := hS.1.1;go_simp
       exact ⟨_, rfl, rfl, Below.refl _ _⟩
      ·intro a' u hS hd
       obtain ⟨_, e0, rfl⟩ := hd 1 (by kernel_rfl);have f0 : a'.tmps[110]? = some _ := e0;clear e0;clear hd;go_simp
       exact ⟨_, rfl, rfl, Below.refl _ _⟩
      ·intro a' u hS hd
       obtain ⟨_, e0, rfl⟩ := hd 0 (by kernel_rfl);have f0 : a'.tmps[109]? = some _ := e0;clear e0;obtain ⟨_, e1, rfl⟩ := hd 2 (by kernel_rfl);have f1 : a'.tmps[111]? = some _ := e1;clear e1;clear hd;go_simp
       exact ⟨_, rfl, rfl, Below.refl _ _⟩
      ·intro a' u hS hd
       obtain ⟨_, e0, rfl⟩ := hd 3 (by kernel_rfl);have f0 : a'.tmps[112]? = some _ := e0;clear e0 hd;have CI := hd_ (C1.out u hS.2);go_simp
       refine CI.out.mono ?_;rintro e u' ⟨g, t, rfl, h1, h2⟩;exact ⟨_, rfl, ⟨g, t, rfl, h1.base (Nat.le_trans HIF.out.below.size hS.2.size)⟩, h2⟩
      ·intro a' u hS hd
       clear hd;have g0 := hS.1.2;go_simp
       exact ⟨_, rfl, rfl, Below.refl _ _⟩
      ·intro a' u hS hd
       clear hd;have g0 := hS.1.1;go_simp
       exact ⟨_, rfl, rfl, Below.refl _ _⟩
      ·intro a' u hS hd
       obtain ⟨_, e0, rfl⟩ := hd 6 (by kernel_rfl);have f0 : a'.tmps[115]? = some _ := e0;clear e0;clear hd;go_simp
       exact ⟨_, rfl, rfl, Below.refl _ _⟩
      ·intro a' u hS hd
       obtain ⟨_, e0, rfl⟩ := hd 5 (by kernel_rfl);have f0 : a'.tmps[114]? = some _ := e0;clear e0;obtain ⟨_, e1, rfl⟩ := hd 7 (by kernel_rfl);have f1 : a'.tmps[116]? = some _ := e1;clear e1;clear hd;go_simp
       exact ⟨_, rfl, rfl, Below.refl _ _⟩
      ·intro a' u hS hd
       obtain ⟨_, e0, rfl⟩ := hd 8 (by kernel_rfl);have f0 : a'.tmps[117]? = some _ := e0;clear e0 hd;have CI := hd_ (C2.out u hS.2);go_simp
       refine CI.out.mono ?_;rintro e u' ⟨g, t, rfl, h1, h2⟩;exact ⟨_, rfl, ⟨g, t, rfl, h1.base (Nat.le_trans HIF.out.below.size hS.2.size)⟩, h2⟩
     ·intro a' u h
      obtain ⟨_, e113, g1', t1, rfl, hd1⟩ := h.new 4 (by decide) (by decide +kernel);replace e113 : a'.tmps[113]? = some (.pointer (some ⟨g1', 0, none⟩)) := e113;obtain ⟨_, e118, g2', t2, rfl, hd2⟩ := h.new 9 (by decide) (by decide +kernel);replace e118 : a'.tmps[118]? = some (.pointer (some ⟨g2', 0, none⟩)) := e118;have htm := tmps_set h.size [109, 110, 111, 112, 113, 114, 115, 116, 117, 118] (fun d hd => h.old d (fun i hi e => hd (by rw [<- e]; exact mem_getD hi)));have hdf : a'.defers = [] := h.defers;have hbu := h.below;clear h;obtain ⟨fx, hf⟩ : ∃ f : Nat -> Value, (fun i => a'.tmps.getD i undef) = f := ⟨_, rfl⟩;replace e113 : (fun i => a'.tmps.getD i undef) 113 = _ := slot_of e113;replace e118 : (fun i => a'.tmps.getD i undef) 118 = _ := slot_of e118;have hff : ∀ i, a'.tmps.getD i undef = fx i := fun i => congrFun hf i
      simp only [hff] at e113 e118;simp only [List.foldl_cons, List.foldl_nil, hff] at htm;obtain ⟨tmps, defers⟩ := a';dsimp only at hdf htm;subst hdf;rw [htm, e113, e118];clear htm hf hff e113 e118;have HD1 := hd_ hd1;have HD2 := hd_ hd2;obtain ⟨hi9, hf9⟩ := HIR.out.below hbu;have HI9 := hd_ hi9;have HF9 := hd_ (HIF.out.trans hf9);clear hd1 hd2 hi9 hf9 hbu k256 hne hne0 g1 g2 g3;simp only [List.setIfInBounds_toArray, List.set_cons_succ, List.set_cons_zero];go_wp2_with fail
      go_ret2
      refine ⟨g1', g2', t1, t2, rfl, HD1.out, HD2.out, ?_, HF9.out⟩;have e : P + (df.headBits C (Lt ++ Dt)).length = P + 14 + 3 * 19 + (R.flatMap fun l => df.sb C l).length := by
       have h1 := df.order_len C 19 (by decide);rw [show df.order.take 19 = df.order from rfl] at h1;rw [HRE.out];unfold df.headBits;simp only [List.length_append, bt.bitsOf_length, h1];omega
      rw [e];exact HI9.out
end Go.Proofs.YthpckmcgbmfmcaaGreatDoor
