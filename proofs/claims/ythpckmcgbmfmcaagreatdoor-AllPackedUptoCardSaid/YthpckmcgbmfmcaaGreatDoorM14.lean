/- Texts of this claim, joined. -/
import Derived.RangeFuncWrites
import Derived.Shelf.SlicesE.Delete
import Derived.RangeFuncFrom
import Derived.Test.YthpckmcgbmfmcaaGreatDoorM13
import Derived.Test.YthpckmcgbmfmcaaGreatDoorM10
import Derived.Lib.AtoiErrMem
set_option maxRecDepth 100000
set_option maxHeartbeats 12800000
namespace Go.Proofs.YthpckmcgbmfmcaaGreatDoor
end Go.Proofs.YthpckmcgbmfmcaaGreatDoor
namespace Go.Proofs.YthpckmcgbmfmcaaGreatDoor
open Go.RowKit Go.Sort Go.Shelf Go.Maps
attribute [local go_sem] Oper.semAt_some
theorem alloc3 (w : World) (o1 o2 o3 : Obj) : ∃ W, W = ((w.alloc o1).alloc o2).alloc o3 /\ W.heap[w.heap.size]? = some o1 /\ W.heap[w.heap.size + 1]? = some o2 /\ W.heap[w.heap.size + 1 + 1]? = some o3 /\ W.heap.size = w.heap.size + 1 + 1 + 1 /\ Below w.heap.size w W := by
 obtain ⟨q1, q2⟩ := heap2 w o1 o2;have q3 := heap_alloc_new ((w.alloc o1).alloc o2) o3;have hs : ((w.alloc o1).alloc o2).heap.size = w.heap.size + 1 + 1 := by simp
 have hb : Below ((w.alloc o1).alloc o2).heap.size ((w.alloc o1).alloc o2) (((w.alloc o1).alloc o2).alloc o3) := (Below.refl _ _).alloc (Nat.le_refl _) _;rw [hs] at q3;exact ⟨_, rfl, (hb.block _ (block_lt q1)).trans q1, (hb.block _ (block_lt q2)).trans q2, q3, by simp, (((Below.refl _ w).alloc (Nat.le_refl _) o1).alloc (by simp) o2).alloc (by simp; omega) o3⟩
section
variable {w : World} {B : Nat} {fix : List (Nat × Array Value × TypeId)} {ob mb pB : Nat} {W H : Int} {vp : Value} {P : List C4} {m : Nat} {xs : List Int} {Wd W' : World}
end
theorem round_call {n l f : Nat} {P : Program} {args : Array Value} {w : World} {R : Ending -> World -> Prop} (h : Calls P f args w R) : Fence.wide.fn f /\ CallsIn (Fence.wide.inRound l) n P f args w R := ⟨trivial, CallsIn.inRound _ (callsIn_wide.2 h)⟩
end Go.Proofs.YthpckmcgbmfmcaaGreatDoor
namespace Go.Proofs.YthpckmcgbmfmcaaGreatDoor
end Go.Proofs.YthpckmcgbmfmcaaGreatDoor
namespace Go.Proofs.YthpckmcgbmfmcaaGreatDoor
end Go.Proofs.YthpckmcgbmfmcaaGreatDoor
namespace Go.Proofs.YthpckmcgbmfmcaaGreatDoor
end Go.Proofs.YthpckmcgbmfmcaaGreatDoor
namespace Go.Proofs.YthpckmcgbmfmcaaGreatDoor
end Go.Proofs.YthpckmcgbmfmcaaGreatDoor
namespace Go.Proofs.YthpckmcgbmfmcaaGreatDoor
end Go.Proofs.YthpckmcgbmfmcaaGreatDoor
namespace Go.Proofs.YthpckmcgbmfmcaaGreatDoor
end Go.Proofs.YthpckmcgbmfmcaaGreatDoor
namespace Go.Proofs.YthpckmcgbmfmcaaGreatDoor
end Go.Proofs.YthpckmcgbmfmcaaGreatDoor
namespace Go.Proofs.YthpckmcgbmfmcaaGreatDoor
end Go.Proofs.YthpckmcgbmfmcaaGreatDoor
namespace Go.Proofs.YthpckmcgbmfmcaaGreatDoor
end Go.Proofs.YthpckmcgbmfmcaaGreatDoor
namespace Go.Proofs.YthpckmcgbmfmcaaGreatDoor
end Go.Proofs.YthpckmcgbmfmcaaGreatDoor
namespace Go.Proofs.YthpckmcgbmfmcaaGreatDoor
open Go.RowKit Go.Sort Go.Shelf Go.Maps
attribute [local go_sem] Oper.semAt_some
def two (v : Nat) : List Int := [(v : Int) % 256, (v : Int) / 256]
end Go.Proofs.YthpckmcgbmfmcaaGreatDoor
namespace Go.Proofs.YthpckmcgbmfmcaaGreatDoor
end Go.Proofs.YthpckmcgbmfmcaaGreatDoor
namespace Go.Proofs.YthpckmcgbmfmcaaGreatDoor
end Go.Proofs.YthpckmcgbmfmcaaGreatDoor
namespace Go.Proofs.YthpckmcgbmfmcaaGreatDoor
open Go.RowKit
def AbidesCur {α : Type} (gb B : Nat) (I : List α -> World -> Prop) : Prop :=
 ∀ s A B' row, I s A -> A.grownBy B' row -> (∀ r, row = some r -> r = gb \/ (B <= r /\ ∃ o : Obj, A.heap[r]? = some o /\ o.isCells = false)) -> I s B'
end Go.Proofs.YthpckmcgbmfmcaaGreatDoor
namespace Go.Proofs.YthpckmcgbmfmcaaGreatDoor
end Go.Proofs.YthpckmcgbmfmcaaGreatDoor
namespace Go.Proofs.YthpckmcgbmfmcaaGreatDoor
end Go.Proofs.YthpckmcgbmfmcaaGreatDoor
namespace Go.Proofs.YthpckmcgbmfmcaaGreatDoor
open Go.RowKit Go.Sort
theorem space_yes (w : World) : Calls Tryz.prog 95 #[.int .u8 32] w fun e w' => e = .returned (.bool true) /\ w = w' := by
 go_enter Tryz.func95, Tryz.ntmps95
 go_wp2_with fail
 go_ret
 exact ⟨rfl, rfl⟩
theorem space_no (c : Int) (hc : 33 <= c) (w : World) : Calls Tryz.prog 95 #[.int .u8 c] w fun e w' => e = .returned (.bool false) /\ w = w' := by
 have h1 : (c == 32) = false := by simp; omega
 have h2 : decide (9 <= c) = true := by simp; omega
 have h3 : decide (c <= 13) = false := by simp; omega
 go_enter Tryz.func95, Tryz.ntmps95
 go_wp2_with fail
 go_ret
 exact ⟨rfl, rfl⟩
structure lit.At (w : World) (g b n cap : Nat) (l : List Int) (p kd ww hh tp : Nat) : Prop where
 head : w.heap[g]? = some (.cells #[.slice (some ⟨b, 0, none⟩) n cap, .int .i64 p, .int .i64 kd, .int .i64 ww, .int .i64 hh, .int .i64 tp] 101 (0, 0))
 data : Sl .u8 w (some ⟨b, 0, none⟩) n cap l
 apart : b ≠ g
theorem lit.At.below {w w' : World} {g b n cap p kd ww hh tp : Nat} {l : List Int} (h : lit.At w g b n cap l p kd ww hh tp) (hb : Below w.heap.size w w') : lit.At w' g b n cap l p kd ww hh tp :=
 ⟨(hb.block _ (block_lt h.head)).trans h.head, h.data.below hb, h.apart⟩
theorem lit.At.at {w : World} {g b n cap p kd ww hh tp : Nat} {l : List Int} (h : lit.At w g b n cap l p kd ww hh tp) (x : Nat) : lit.At (w.setCell ⟨g, 1, none⟩ (.int .i64 x)) g b n cap l x kd ww hh tp :=
 ⟨heap_setCell_same w g 1 _ _ _ h.head, h.data.kept (grownBy_setCell3 w g 1 _) (by intro e; exact h.apart (Option.some.inj e)), h.apart⟩
def GapPost (g b n cap : Nat) (l : List Int) (p kd ww hh tp : Nat) (w : World) (e : Ending) (w' : World) : Prop :=
 e = .returned (.int .i64 1) /\ lit.At w' g b n cap l (p + 1) kd ww hh tp /\ w.grownBy w' (some g)
theorem gap_any (g b n cap : Nat) (l : List Int) (p kd ww hh tp : Nat) (w : World) (h : lit.At w g b n cap l p kd ww hh tp) (hn : n <= 1000) (hp : p + 1 < n) (h1 : l.getD p 0 = 32) (h2 : 36 <= l.getD (p + 1) 0) :
  Calls Tryz.prog 129 #[.pointer (some ⟨g, 0, none⟩)] w (GapPost g b n cap l p kd ww hh tp w) := by
 have HH := hd_ h;have a0 := (cr_ w 0 h.head (Value.slice (some ⟨b, 0, none⟩) n cap) rfl);have a1 := (cr_ w 1 h.head (Value.int .i64 (p : Nat)) rfl);have f1 := frozen_of_row w _ 1 _ _ h.head;obtain ⟨_, _, ee, hcell⟩ := h.data.cells (by omega);simp only [Option.some.injEq, Addr.mk.injEq, and_true] at ee;obtain ⟨rfl, rfl⟩ := ee;have k1 := hcell p (by omega);rw [h1] at k1;simp only [Nat.zero_add] at k1;have hfit := h.data.fits;have hpi1 : (p : Int) < (n : Int) := by omega
 have hpd : ¬ cap = p := by omega
 clear h h1 hcell;go_enter Tryz.func129, Tryz.ntmps129
 go_wp2_with fail
 refine wp_loop_rounds 2 ?_;rw [rounds_succ];go_wp2_with fail
 go_quiet (fail)
 have b1 := below_drewN (Below.refl w.heap.size w) nq;generalize w.drewN nq = w1 at *;have e0 := keep_cell b1 a0;have e1 := keep_cell b1 a1;have j1 := keep_cell b1 k1;have H1 := hd_ (HH.out.below b1);have G1 := hd_ b1;clear a0 a1 k1 f1 b1 HH;go_wp2_with fail
 go_quiet (fail)
 have b2 := below_drewN (Below.refl w1.heap.size w1) nq;generalize w1.drewN nq = w2 at *;have H2 := hd_ (H1.out.below b2);have G2 := hd_ ((grown_some G1.out : w.grownBy w1 (some g)).trans (grown_some b2));clear e0 e1 j1 b2 H1 G1;have a1 := (cr_ w2 1 H2.out.head (Value.int .i64 (p : Nat)) rfl);have f1 := frozen_of_row w2 _ 1 _ _ H2.out.head;go_wp2_with fail
 refine (space_yes _).mono ?_;rintro e w3 ⟨rfl, rfl⟩;have h3 := H2.out.at (p + 1);have g3 := G2.out.trans (grownBy_setCell3 w2 g 1 (.int .i64 (p + 1 : Nat)));rw [show ((p + 1 : Nat) : Int) = (p : Int) + 1 by omega] at h3 g3;have H3 := hd_ h3;have G3 := hd_ g3;clear h3 g3;go_wp2_with fail
 clear a1 f1;generalize w2.setCell ⟨g, 1, none⟩ (.int .i64 ((p : Int) + 1)) = w3 at *;have c0 := (cr_ w3 0 H3.out.head (Value.slice (some ⟨b, 0, none⟩) n cap) rfl);have c1 := (cr_ w3 1 H3.out.head (Value.int .i64 (p + 1 : Nat)) rfl);obtain ⟨_, _, ee, hcell⟩ := H3.out.data.cells (by omega);cases ee;have k1 := hcell (p + 1) (by omega);obtain ⟨x, hx⟩ : ∃ x, l.getD (p + 1) 0 = x := ⟨_, rfl⟩;rw [hx] at k1 h2;have hpi2 : ((p + 1 : Nat) : Int) < (n : Int) := by omega
 have hpd2 : ¬ cap = p + 1 := by omega
 simp only [Nat.zero_add] at k1;have hx35 : (x == 35) = false := by simp; omega
 clear hcell hx;rw [rounds_succ];go_wp2_with fail
 go_quiet (fail)
 have b4 := below_drewN (Below.refl w3.heap.size w3) nq;generalize w3.drewN nq = w4 at *;have e0 := keep_cell b4 c0;have e1 := keep_cell b4 c1;have j1 := keep_cell b4 k1;have H4 := hd_ (H3.out.below b4);have G4 := hd_ (G3.out.trans (grown_some b4));clear c0 c1 k1 b4 H3 G3;go_wp2_with fail
 go_quiet (fail)
 have b5 := below_drewN (Below.refl w4.heap.size w4) nq;generalize w4.drewN nq = w5 at *;have d1 := keep_cell b5 e1;have H5 := hd_ (H4.out.below b5);have G5 := hd_ (G4.out.trans (grown_some b5));clear e0 e1 j1 b5 H4 G4;go_wp2_with fail
 refine (space_no x (by omega) _).mono ?_;rintro e w6 ⟨rfl, rfl⟩;go_wp2_with fail
 go_ret
 exact ⟨congrArg (fun z : Int => Ending.returned (.int .i64 z)) (show (p : Int) + 1 - (p : Int) = 1 by omega), H5.out, G5.out⟩
end Go.Proofs.YthpckmcgbmfmcaaGreatDoor
namespace Go.Proofs.YthpckmcgbmfmcaaGreatDoor
open Go.RowKit
section
variable {P : Program} {ops : Array Oper} {Q : Exit -> Act -> World -> Prop}
def backsAny (ops : Array Oper) : Bool := (List.range ops.size).all fun i => ((ops[i]?).map (·.after.all fun e => !Region.binds .any e || decide (e.on < i))).getD true
theorem all_listedAny (hb : backsAny ops = true) {listed : Array Bool} (hs : listed.size = ops.size) (h : Region.ready .any ops listed = []) : ∀ i, i < ops.size -> listed.getD i false = true := by
 intro i
 induction i using Nat.strongRecOn with
 | _ i ih =>
  intro hi;cases hv : listed.getD i false with
  | true => rfl
  | false =>
   exfalso;have hmem : i ∈ Region.ready .any ops listed := by
    refine mem_ready.2 ⟨?_, ops[i], Array.getElem?_eq_getElem hi, fun e he hbnd => ?_⟩
    ·have : i < listed.size := hs ▸ hi
     simpa [this] using hv
    ·have h1 := List.all_eq_true.1 hb i (List.mem_range.2 hi)
     rw [Array.getElem?_eq_getElem hi] at h1;have h2 := Array.all_eq_true_iff_forall_mem.1 h1 e he;have hlt : e.on < i := (by simpa [hbnd] using h2);exact ih e.on hlt (by omega)
   rw [h] at hmem;cases hmem
section
variable {D : Nat -> Nat}
theorem wp_region_laidAny {R : Nat -> Value -> World -> Prop} {S : Act -> World -> Prop} {a₀ : Act} {w₀ : World} {id : Nat} (hm : P.follows .mixedOrders = true)
  (hb : backsAny ops = true) (hp : plainOps ops D a₀.tmps.size = true)
  (hR : ∀ i v w w', R i v w -> Below w.heap.size w w' -> R i v w')
  (hS : ∀ a w, Below w₀.heap.size w₀ w -> w₀.heap.size <= w.heap.size -> (∀ d, (∀ i, i < ops.size -> D i ≠ d) -> a.tmps[d]? = a₀.tmps[d]?) -> S a w)
  (hop : AllDo (OpDoes P Q S D R) 0 ops.toList)
  (hfin : ∀ a w, Laid ops D R a₀ w₀ (Array.replicate ops.size true) a w -> Q .normal a w) :
  (Code.region id ops true).wp P Q a₀ w₀ := by
 refine wp_region_any hm (wpAny_inv (Laid ops D R a₀ w₀) ?_ ?_ _ _ _ _ (by simp) (by simp [left]) ?_)
 ·intro listed a w hs hI i hi
  obtain ⟨hun, o, ho, hall⟩ := mem_ready.1 hi;obtain ⟨hg, hd, hdn⟩ := plainOps_at hp ho;have hlt : i < ops.size := (Array.getElem?_eq_some_iff.1 ho).1;have hwanted : Region.wanted o (yielded ops a.tmps) = true := by simp [Region.wanted, hg]
  have hdo := AllDo.at hop (i := i) (o := o) (by simpa using ho);rw [Nat.zero_add] at hdo;unfold wpOp;simp only [ho, hwanted, if_true];refine .inl (Oper.wp_mono ?_ (hdo a w (hS a w hI.below hI.below.size hI.old) fun j hj => ?_))
  ·rintro a' w' ⟨v, rfl, hRv, hbw⟩
   rw [hd];refine ⟨hI.below.trans (hbw.mono hI.below.size), hI.defers, ?_, ?_, ?_⟩
   ·simpa [Act.put] using hI.size
   ·intro d hdd
    have : D i ≠ d := hdd i hlt;simp only [Act.put, Array.getElem?_setIfInBounds_ne this];exact hI.old d hdd
   ·intro j hj hjl
    by_cases hij : i = j
    ·subst hij
     exact ⟨v, by simp [Act.put, hI.size, hdn], hRv⟩
    ·rw [getD_set_ne false hij] at hjl
     obtain ⟨u, hu, hRu⟩ := hI.new j hj hjl;refine ⟨u, ?_, hR j u w w' hRu hbw⟩;simp only [Act.put, Array.getElem?_setIfInBounds_ne (plainOps_ne hp hlt hj hij)];exact hu
  ·obtain ⟨e, he, hbd⟩ := Array.any_eq_true'.1 hj
   simp only [Bool.and_eq_true, beq_iff_eq] at hbd;have hl := hall e he hbd.2;rw [hbd.1] at hl;have hon : j < ops.size := by
    rcases Nat.lt_or_ge j listed.size with h' | h'
    ·omega
    ·simp [Array.getElem?_eq_none h'] at hl
   exact hI.new j hon hl
 ·intro listed a w hs hI hnil
  refine hfin a w ⟨hI.below, hI.defers, hI.size, hI.old, fun i hi _ => hI.new i hi (all_listedAny hb hs hnil i hi)⟩
 ·refine ⟨Below.drew (Below.refl _ _), rfl, rfl, fun _ _ => rfl, fun i hi hl => ?_⟩
  simp [hi] at hl
end
end
end Go.Proofs.YthpckmcgbmfmcaaGreatDoor
namespace Go.Proofs.YthpckmcgbmfmcaaGreatDoor
open Go.RowKit Go.Sort
theorem lit.conv_str {w : World} {a : Option Addr} {n cap : Nat} {l : List Int} (h : Sl .u8 w a n cap l) (hn : 0 < n) : (convert 22 9 (.slice a n cap)).run Tryz.prog w = .ok (.string (strOfNums l)) w := by
 obtain ⟨b, off, rfl, hc⟩ := h.cells hn;exact run_convert_bytes_arg w 22 5 Tryz.underlying22 Tryz.underlying5 b off n cap l h.len hc 9 Tryz.underlying9
def NumPost (g b n cap : Nat) (l : List Int) (p m kd ww hh tp : Nat) (v : Nat) (w : World) (e : Ending) (w' : World) : Prop :=
 e = .returned (.tuple #[.int .i64 v, .bool true]) /\ lit.At w' g b n cap l (p + m) kd ww hh tp /\ w.grownBy w' (some g)
theorem number_any (g b n cap : Nat) (l : List Int) (p m kd ww hh tp : Nat) (z lo hi : Nat) (w : World) (h : lit.At w g b n cap l p kd ww hh tp) (hn : n <= 1000) (hm : 1 <= m /\ m <= 9) (hp : p + m < n)
  (hd : ∀ k, k < m -> 48 <= l.getD (p + k) 0 /\ l.getD (p + k) 0 <= 57) (he : l.getD (p + m) 0 = 32) (hv : Lib.atoi (strOfNums ((l.drop p).take m)).data.toList = some (z : Int)) (hlo : lo <= z /\ z <= hi) :
  Calls Tryz.prog 130 #[.pointer (some ⟨g, 0, none⟩), .int .i64 lo, .int .i64 hi] w (NumPost g b n cap l p m kd ww hh tp z w) := by
 have HH := hd_ h;have HD := hd_ hd;have HE := hd_ he;have HV := hd_ hv;have hfit := h.data.fits;obtain ⟨hm1, hm9⟩ := hm;obtain ⟨hlo1, hlo2⟩ := hlo;clear h hd he hv;go_enter Tryz.func130, Tryz.ntmps130
 go_wp2_with fail
 go_loopg [8] m (fun gk s8 wr => ∃ k : Nat, k <= m /\ gk = m - k /\ s8 = .int .i64 (k : Nat) /\ lit.At wr g b n cap l p kd ww hh tp /\ w.grownBy wr (some g))
 case atStart => exact ⟨0, Nat.zero_le _, rfl, by go_num, HH.out, ⟨rfl, rfl, rfl, Nat.le_refl _, fun _ _ _ => rfl⟩⟩
 case round =>
  obtain ⟨k, hk, hgk, rfl, hat, hgr⟩ := hrel;have Hg := hd_ hgk;have HA := hd_ hat;have HG := hd_ hgr;have a0 := (cr_ wr 0 hat.head (Value.slice (some ⟨b, 0, none⟩) n cap) rfl);have a1 := (cr_ wr 1 hat.head (Value.int .i64 (p : Nat)) rfl);obtain ⟨_, _, ee, hcell⟩ := hat.data.cells (by omega);simp only [Option.some.injEq, Addr.mk.injEq, and_true] at ee;obtain ⟨rfl, rfl⟩ := ee;have k1 := hcell (p + k) (by omega);simp only [Nat.zero_add] at k1;obtain ⟨x, hx⟩ : ∃ x, l.getD (p + k) 0 = x := ⟨_, rfl⟩;rw [hx] at k1;have hlt1 : decide ((p : Int) + (k : Int) < (n : Int)) = true := by simp; omega
  have hcap : ¬ cap = p + k := by omega
  have hw1 : IntKind.i64.wrap ((p : Int) + (k : Int)) = (p : Int) + (k : Int) := i64i (by omega);have hp0 : (0 : Int) <= (p : Int) + (k : Int) := by omega
  have hpt : ((p : Int) + (k : Int)).toNat = p + k := by omega
  clear hgk hat hgr hcell HH;by_cases hlt : k < m
  ·have hdx := HD.out k hlt
   rw [hx] at hdx;have h48 : decide (48 <= x) = true := (by simp; omega);have h57 : decide (x <= 57) = true := (by simp; omega);clear hx hdx;go_wp2_with fail
   go_quiet (fail)
   clear hw1 hp0 hpt hlt1 h48 h57;have b1 := below_drewN (Below.refl wr.heap.size wr) nq;have HA1 := hd_ (HA.out.below b1);have HG1 := hd_ (HG.out.trans (grown_some b1));generalize wr.drewN nq = w1 at *;clear b1 a0 a1 k1;go_wp2_with fail
   go_roundg (m - (k + 1))
   case measure => have := Hg.out; omega
   case rel => exact ⟨k + 1, by omega, rfl, by go_num, HA1.out, HG1.out⟩
  ·obtain rfl : k = m := by omega
   rw [HE.out] at hx;subst hx;go_wp2_with fail
   go_quiet (fail)
   clear hw1 hp0 hpt hlt1;have b1 := below_drewN (Below.refl wr.heap.size wr) nq;have HA1 := hd_ (HA.out.below b1);have HG1 := hd_ (HG.out.trans (grown_some b1));generalize wr.drewN nq = w1 at *;clear b1 a0 a1 k1;have hk0 : ((k : Int) == 0) = false := (by simp; omega);have hk9 : decide (9 < (k : Int)) = false := (by simp; omega);go_wp2_with fail
   have c0 := (cr_ w1 0 HA1.out.head (Value.slice (some ⟨b, 0, none⟩) n cap) rfl);have c1 := (cr_ w1 1 HA1.out.head (Value.int .i64 (p : Nat)) rfl);have hsl2 := (HA1.out.data.drop (m := p) (by omega)).take (m := k) (by omega);rw [Nat.zero_add] at hsl2;have kc : ∀ u, Below w1.heap.size w1 u -> (convert 22 9 (.slice (some ⟨b, p, none⟩) k (cap - p))).run Tryz.prog u = .ok (.string (strOfNums ((l.drop p).take k))) u := fun u hu => lit.conv_str (hsl2.below hu) (by omega)
   have hw1 : IntKind.i64.wrap ((p : Int) + (k : Int)) = (p : Int) + (k : Int) := i64i (by omega);have hw2 : (p : Int) <= (p : Int) + (k : Int) := (by omega);have hw3 : (p : Int) + (k : Int) <= (cap : Int) := (by omega);have hw4 : ¬ cap = p := (by omega);have hw5 : ((p : Int) + (k : Int)).toNat = p + k := (by omega);have hw6 : (0 : Int) <= (p : Int) + (k : Int) := (by omega);have hw7 : p + k - p = k := (by omega);have hsz : (strOfNums ((l.drop p).take k)).size <= 18 := by
    rw [strOfNums_size];simp;omega
   clear hsl2 hk0 hk9;refine wp_region_laidAny (D := fun i => ([62, 63, 64, 65, 66, 67, 68, 69, 70, 71, 72, 73, 74, 75, 76, 77, 78, 61, 79, 80, 9, 10] : List Nat).getD i 0)
    (R := fun rj v w' => match rj with
     | 0 => v = .pointer (some ⟨g, 0, none⟩)
     | 1 => v = .pointer (some ⟨g, 0, none⟩)
     | 2 => v = .pointer (some ⟨g, 0, none⟩)
     | 3 => v = .slice (some ⟨b, 0, none⟩) n cap
     | 4 => v = .pointer (some ⟨g, 0, none⟩)
     | 5 => v = .pointer (some ⟨g, 0, none⟩)
     | 6 => v = .pointer (some ⟨g, 1, none⟩)
     | 7 => v = .int .i64 (p : Nat)
     | 8 => v = .pointer (some ⟨g, 0, none⟩)
     | 9 => v = .pointer (some ⟨g, 0, none⟩)
     | 10 => v = .pointer (some ⟨g, 1, none⟩)
     | 11 => v = .int .i64 (p : Nat)
     | 12 => v = .int .i64 (k : Nat)
     | 13 => v = .int .i64 ((p : Int) + (k : Int))
     | 14 => v = .slice (some ⟨b, p, none⟩) k (cap - p)
     | 15 => v = .string (strOfNums ((l.drop p).take k))
     | 16 => v = .tuple #[.int .i64 (z : Nat), .nilIface]
     | 17 => v = .tuple #[.int .i64 (z : Nat), .nilIface]
     | 18 => v = .int .i64 (z : Nat)
     | 19 => v = .nilIface
     | 20 => v = .int .i64 (z : Nat)
     | 21 => v = .nilIface
     | _ => True)
    (S := fun a' w' => (a'.tmps[0]? = some (.pointer (some ⟨g, 0, none⟩)) /\ a'.tmps[8]? = some (.int .i64 (k : Nat))) /\ Below w1.heap.size w1 w')
    (by kernel_rfl) (by decide +kernel) (by kernel_rfl) ?_ ?_ ?_ ?_
   ·intro i v u u' h hb
    match i, h with
    | 0, h => exact h
    | 1, h => exact h
    | 2, h => exact h
    | 3, h => exact h
    | 4, h => exact h
    | 5, h => exact h
    | 6, h => exact h
    | 7, h => exact h
    | 8, h => exact h
    | 9, h => exact h
    | 10, h => exact h
    | 11, h => exact h
    | 12, h => exact h
    | 13, h => exact h
    | 14, h => exact h
    | 15, h => exact h
    | 16, h => exact h
    | 17, h => exact h
    | 18, h => exact h
    | 19, h => exact h
    | 20, h => exact h
    | 21, h => exact h
    | i + 22, _ => trivial
   ·intro a' u hb _ hold
    exact ⟨⟨hold 0 (by decide), hold 8 (by decide)⟩, hb⟩
   ·refine ⟨?_, ?_, ?_, ?_, ?_, ?_, ?_, ?_, ?_, ?_, ?_, ?_, ?_, ?_, ?_, ?_, ?_, ?_, ?_, ?_, ?_, ?_, trivial⟩
    ·intro a' u hS hd
     clear hd;have g0 := hS.1.1;go_simp
     exact ⟨_, rfl, rfl, Below.refl _ _⟩
    ·intro a' u hS hd
     obtain ⟨_, e0, rfl⟩ := hd 0 (by kernel_rfl);have f0 : a'.tmps[62]? = some _ := e0;clear e0;clear hd;have x0 := keep_cell hS.2 c0;go_simp
     exact ⟨_, rfl, rfl, Below.refl _ _⟩
    ·intro a' u hS hd
     obtain ⟨_, e0, rfl⟩ := hd 1 (by kernel_rfl);have f0 : a'.tmps[63]? = some _ := e0;clear e0;clear hd;go_simp
     exact ⟨_, rfl, rfl, Below.refl _ _⟩
    ·intro a' u hS hd
     obtain ⟨_, e0, rfl⟩ := hd 2 (by kernel_rfl);have f0 : a'.tmps[64]? = some _ := e0;clear e0;clear hd;have x0 := keep_cell hS.2 c0;go_simp
     exact ⟨_, rfl, rfl, Below.refl _ _⟩
    ·intro a' u hS hd
     clear hd;have g0 := hS.1.1;go_simp
     exact ⟨_, rfl, rfl, Below.refl _ _⟩
    ·intro a' u hS hd
     obtain ⟨_, e0, rfl⟩ := hd 4 (by kernel_rfl);have f0 : a'.tmps[66]? = some _ := e0;clear e0;clear hd;have x0 := keep_cell hS.2 c0;go_simp
     exact ⟨_, rfl, rfl, Below.refl _ _⟩
    ·intro a' u hS hd
     obtain ⟨_, e0, rfl⟩ := hd 5 (by kernel_rfl);have f0 : a'.tmps[67]? = some _ := e0;clear e0;clear hd;go_simp
     exact ⟨_, rfl, rfl, Below.refl _ _⟩
    ·intro a' u hS hd
     obtain ⟨_, e0, rfl⟩ := hd 6 (by kernel_rfl);have f0 : a'.tmps[68]? = some _ := e0;clear e0;clear hd;have x0 := keep_cell hS.2 c1;go_simp
     exact ⟨_, rfl, rfl, Below.refl _ _⟩
    ·intro a' u hS hd
     clear hd;have g0 := hS.1.1;go_simp
     exact ⟨_, rfl, rfl, Below.refl _ _⟩
    ·intro a' u hS hd
     obtain ⟨_, e0, rfl⟩ := hd 8 (by kernel_rfl);have f0 : a'.tmps[70]? = some _ := e0;clear e0;clear hd;have x0 := keep_cell hS.2 c0;go_simp
     exact ⟨_, rfl, rfl, Below.refl _ _⟩
    ·intro a' u hS hd
     obtain ⟨_, e0, rfl⟩ := hd 9 (by kernel_rfl);have f0 : a'.tmps[71]? = some _ := e0;clear e0;clear hd;go_simp
     exact ⟨_, rfl, rfl, Below.refl _ _⟩
    ·intro a' u hS hd
     obtain ⟨_, e0, rfl⟩ := hd 10 (by kernel_rfl);have f0 : a'.tmps[72]? = some _ := e0;clear e0;clear hd;have x0 := keep_cell hS.2 c1;go_simp
     exact ⟨_, rfl, rfl, Below.refl _ _⟩
    ·intro a' u hS hd
     clear hd;have g0 := hS.1.2;go_simp
     exact ⟨_, rfl, rfl, Below.refl _ _⟩
    ·intro a' u hS hd
     obtain ⟨_, e0, rfl⟩ := hd 11 (by kernel_rfl);have f0 : a'.tmps[73]? = some _ := e0;clear e0;obtain ⟨_, e1, rfl⟩ := hd 12 (by kernel_rfl);have f1 : a'.tmps[74]? = some _ := e1;clear e1;clear hd;go_simp
     exact ⟨_, rfl, rfl, Below.refl _ _⟩
    ·intro a' u hS hd
     obtain ⟨_, e0, rfl⟩ := hd 3 (by kernel_rfl);have f0 : a'.tmps[65]? = some _ := e0;clear e0;obtain ⟨_, e1, rfl⟩ := hd 7 (by kernel_rfl);have f1 : a'.tmps[69]? = some _ := e1;clear e1;obtain ⟨_, e2, rfl⟩ := hd 13 (by kernel_rfl);have f2 : a'.tmps[75]? = some _ := e2;clear e2;clear hd;go_simp
     exact ⟨_, rfl, rfl, Below.refl _ _⟩
    ·intro a' u hS hd
     obtain ⟨_, e0, rfl⟩ := hd 14 (by kernel_rfl);have f0 : a'.tmps[76]? = some _ := e0;clear e0;clear hd;have x9 := kc _ hS.2;go_simp
     exact ⟨_, rfl, rfl, Below.refl _ _⟩
    ·intro a' u hS hd
     obtain ⟨_, e0, rfl⟩ := hd 15 (by kernel_rfl);have f0 : a'.tmps[77]? = some _ := e0;clear e0;clear hd;go_simp
     refine (lit.atoi _ (z : Int) hsz HV.out u).mono ?_;rintro e u' ⟨rfl, t, rfl⟩;exact ⟨_, rfl, rfl, Lib.bytesWorld_below _ _ _⟩
    ·intro a' u hS hd
     obtain ⟨_, e0, rfl⟩ := hd 16 (by kernel_rfl);have f0 : a'.tmps[78]? = some _ := e0;clear e0;clear hd;go_simp
     exact ⟨_, rfl, rfl, Below.refl _ _⟩
    ·intro a' u hS hd
     obtain ⟨_, e0, rfl⟩ := hd 17 (by kernel_rfl);have f0 : a'.tmps[61]? = some _ := e0;clear e0;clear hd;go_simp
     exact ⟨_, rfl, rfl, Below.refl _ _⟩
    ·intro a' u hS hd
     obtain ⟨_, e0, rfl⟩ := hd 17 (by kernel_rfl);have f0 : a'.tmps[61]? = some _ := e0;clear e0;clear hd;go_simp
     exact ⟨_, rfl, rfl, Below.refl _ _⟩
    ·intro a' u hS hd
     obtain ⟨_, e0, rfl⟩ := hd 18 (by kernel_rfl);have f0 : a'.tmps[79]? = some _ := e0;clear e0;clear hd;go_simp
     exact ⟨_, rfl, rfl, Below.refl _ _⟩
    ·intro a' u hS hd
     obtain ⟨_, e0, rfl⟩ := hd 19 (by kernel_rfl);have f0 : a'.tmps[80]? = some _ := e0;clear e0;clear hd;go_simp
     exact ⟨_, rfl, rfl, Below.refl _ _⟩
   ·intro a' u h
    obtain ⟨_, e9, rfl⟩ := h.new 20 (by decide) (by decide +kernel);replace e9 : a'.tmps[9]? = some (.int .i64 (z : Nat)) := e9;obtain ⟨_, e10, rfl⟩ := h.new 21 (by decide) (by decide +kernel);replace e10 : a'.tmps[10]? = some (.nilIface) := e10;have htm := tmps_set h.size [62, 63, 64, 65, 66, 67, 68, 69, 70, 71, 72, 73, 74, 75, 76, 77, 78, 61, 79, 80, 9, 10] (fun d hd => h.old d (fun i hi e => hd (by rw [<- e]; exact mem_getD hi)));have hdf : a'.defers = [] := h.defers;have hbu := h.below;clear h;obtain ⟨fx, hf⟩ : ∃ f : Nat -> Value, (fun i => a'.tmps.getD i undef) = f := ⟨_, rfl⟩;replace e9 : (fun i => a'.tmps.getD i undef) 9 = _ := slot_of e9;replace e10 : (fun i => a'.tmps.getD i undef) 10 = _ := slot_of e10;have hff : ∀ i, a'.tmps.getD i undef = fx i := fun i => congrFun hf i
    simp only [hff] at e9 e10;simp only [List.foldl_cons, List.foldl_nil, hff] at htm;obtain ⟨tmps, defers⟩ := a';dsimp only at hdf htm;subst hdf;rw [htm, e9, e10];clear htm hf hff e9 e10;have HA2 := hd_ (HA1.out.below hbu);have HG2 := hd_ (HG1.out.trans (grown_some hbu));clear hbu kc c0 c1 HA1 HG1 hw1 hw2 hw3 hw4 hw5 hw6 hw7 hsz;have a1 := (cr_ u 1 HA2.out.head (Value.int .i64 (p : Nat)) rfl);have hw1 : IntKind.i64.wrap ((p : Int) + (k : Int)) = (p : Int) + (k : Int) := i64i (by omega);have h1 : decide ((lo : Int) <= (z : Int)) = true := (by simp; omega);have h2 : decide ((z : Int) <= (hi : Int)) = true := (by simp; omega);simp only [List.setIfInBounds_toArray, List.set_cons_succ, List.set_cons_zero];have f1 := frozen_of_row u _ 1 _ _ HA2.out.head;go_wp2_with fail
    go_ret2
    have h3 := HA2.out.at (p + k);have g3 := HG2.out.trans (grownBy_setCell3 u g 1 (.int .i64 (p + k : Nat)));rw [show ((p + k : Nat) : Int) = (p : Int) + (k : Int) by omega] at h3 g3;exact ⟨rfl, h3, g3⟩
end Go.Proofs.YthpckmcgbmfmcaaGreatDoor
