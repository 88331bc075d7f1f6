/- Texts of this claim, joined. -/
import Derived.Test.YthpckmcgbmfmcaaGreatDoorM19
set_option maxRecDepth 100000
set_option maxHeartbeats 12800000
namespace Go.Proofs.YthpckmcgbmfmcaaGreatDoor
open Go.RowKit Go.Sort
def fRow (k : IntKind) (f : Nat -> Nat) (m : Nat) : Array Value := ((List.range m).map fun j => Value.int k (f j : Nat)).toArray
theorem fRow_get (k : IntKind) (f : Nat -> Nat) {m j : Nat} (h : j < m) : (fRow k f m)[j]? = some (.int k (f j : Nat)) := by simp [fRow, h]
theorem fRow_set (k : IntKind) (f g : Nat -> Nat) {m j : Nat} (x : Nat) (hx : g j = x) (h : ∀ i, i < m -> i ≠ j -> g i = f i) : (fRow k f m).setIfInBounds j (.int k (x : Nat)) = fRow k g m := by
 apply Array.ext'
 apply List.ext_getElem?
 intro i;unfold fRow;rw [List.setIfInBounds_toArray, List.getElem?_set, List.getElem?_map, List.getElem?_map];by_cases hi : i < m
 ·rw [List.getElem?_range hi]
  by_cases e : j = i
  ·subst e
   simp [hi, hx]
  ·simp [e, h i hi (fun h => e h.symm)]
 ·rw [List.getElem?_eq_none (by simpa using hi)]
  by_cases e : j = i
  ·simp [e, hi]
  ·simp [e]
theorem fRow_congr (k : IntKind) {f g : Nat -> Nat} {m : Nat} (h : ∀ i, i < m -> g i = f i) : fRow k g m = fRow k f m := by
 unfold fRow;congr 1
 exact List.map_congr_left fun i hi => by rw [h i (List.mem_range.1 hi)]
theorem fRow_store {w : World} {b j m : Nat} {k : IntKind} {t : TypeId} {f : Nat -> Nat} (h : w.heap[b]? = some (.cells (fRow k f m) t (0, 0))) (g : Nat -> Nat) (x : Nat) (hx : g j = x) (hg : ∀ i, i < m -> i ≠ j -> g i = f i) :
  (w.setCell ⟨b, j, none⟩ (.int k (x : Nat))).heap[b]? = some (.cells (fRow k g m) t (0, 0)) := by
 rw [heap_setCell_same _ _ _ _ _ _ h, fRow_set k f g x hx hg]
theorem fRow_cell {w : World} {b j m : Nat} {k : IntKind} {t : TypeId} {f : Nat -> Nat} (h : w.heap[b]? = some (.cells (fRow k f m) t (0, 0))) (hj : j < m) : w.cell? ⟨b, j, none⟩ = some (.int k (f j : Nat)) :=
 (cell_of_row w b j _ _ (0, 0) h).trans (fRow_get k f hj)
namespace pf
def cntF (ls : List Nat) (i j : Nat) : Nat := if j = 0 then 0 else (ls.take i).count j
theorem cntF_same {ls : List Nat} {i : Nat} (h : i < ls.length) (h0 : ls.getD i 0 = 0) (j : Nat) : cntF ls (i + 1) j = cntF ls i j := by
 unfold cntF;by_cases hj : j = 0
 ·rw [if_pos hj, if_pos hj]
 ·rw [if_neg hj, if_neg hj, take_snocN h, List.count_append, h0, List.count_singleton, if_neg (by simpa using fun e => hj e.symm), Nat.add_zero]
theorem cntF_here {ls : List Nat} {i : Nat} (h : i < ls.length) (h0 : ls.getD i 0 ≠ 0) : cntF ls (i + 1) (ls.getD i 0) = cntF ls i (ls.getD i 0) + 1 := by
 unfold cntF;rw [if_neg h0, if_neg h0, take_snocN h, List.count_append, List.count_singleton_self]
theorem cntF_other {ls : List Nat} {i : Nat} (h : i < ls.length) {j : Nat} (hj : j ≠ ls.getD i 0) : cntF ls (i + 1) j = cntF ls i j := by
 unfold cntF;by_cases h0 : j = 0
 ·rw [if_pos h0, if_pos h0]
 ·rw [if_neg h0, if_neg h0, take_snocN h, List.count_append, List.count_singleton, if_neg (by simpa using fun e => hj e.symm), Nat.add_zero]
theorem cntF_le (ls : List Nat) (i j : Nat) : cntF ls i j <= ls.length := by
 unfold cntF;split
 ·exact Nat.zero_le _
 ·exact Nat.le_trans List.count_le_length (by rw [List.length_take]; omega)
def nxF (ls : List Nat) (m j : Nat) : Nat := if j <= m then first ls j else 0
def goF (ls : List Nat) (i j : Nat) : Nat := first ls j + cntF ls i j
def codF (ls : List Nat) (i s : Nat) : Nat := if s < i /\ ls.getD s 0 ≠ 0 then code ls s else 0
end pf
theorem made_u32 (m : Nat) : madeCells (Value.int .u32 0).cells m = fRow .u32 (fun _ => 0) m := by
 apply Array.toList_inj.1
 rw [show (Value.int .u32 0).cells = #[.int .u32 0] from rfl, toList_madeCells_one];unfold fRow;simp [List.map_const']
theorem infoU32 : (Tryz.prog.info? 45).map (fun i => (i.zero, i.size, i.bytes)) = some (some (.int .u32 0), 1, 4) := by kernel_rfl
theorem make_u32 (m : Nat) (hm : m <= 16777216) (w : World) : (Instr.makeSlice 184 (.int .i64 (m : Int)) (.int .i64 (m : Int))).run Tryz.prog w = .ok (.slice (some ⟨w.heap.size, 0, none⟩) m m) (w.alloc (.cells (fRow .u32 (fun _ => 0) m) 45)) := by
 obtain ⟨i0, hi, hz0, hz1, hz2⟩ := info_parts infoU32;have := run_make_rowN (P := Tryz.prog) 184 45 i0 _ Tryz.underlying184 hi hz0 .i64 .i64 m m (Nat.le_refl _) (by rw [hz2]; omega) (by omega) w;rw [hz1, Nat.mul_one, made_u32] at this;exact this
theorem zero18 : (#[.int .u32 0, .int .u32 0, .int .u32 0, .int .u32 0, .int .u32 0, .int .u32 0, .int .u32 0, .int .u32 0, .int .u32 0, .int .u32 0, .int .u32 0, .int .u32 0, .int .u32 0, .int .u32 0, .int .u32 0, .int .u32 0, .int .u32 0, .int .u32 0] : Array Value) = fRow .u32 (fun _ => 0) 18 := rfl
def CodesPost (ls : List Nat) (n : Nat) (w : World) (e : Ending) (w' : World) : Prop :=
 ∃ g, e = .returned (.tuple #[.slice (some ⟨g, 0, none⟩) n n, .int .i64 0]) /\ w.heap.size <= g /\ w'.heap[g]? = some (.cells (fRow .u32 (pf.codF ls n) n) 45 (0, 0)) /\ Below w.heap.size w w'
theorem codes_any (a : Option Addr) (n cap : Nat) (ls : List Nat) (w : World) (h : Sl .i64 w a n cap (nats ls)) (hn : n <= 4096) (hok : pf.Ok ls) :
  Calls Tryz.prog 102 #[.slice a n cap] w (CodesPost ls n w) := by
 have hl : ls.length = n := by have := h.len; rwa [nats_length] at this
 have CC := hd_ (checked_any a n cap ls w h hn hok);have HS := hd_ h;have HL := hd_ hl;have HOK := hd_ hok;have hfit := h.fits;clear h hl hok;go_enter Tryz.func102, Tryz.ntmps102
 go_wp2_with fail
 refine CC.out.mono ?_;rintro e w1 ⟨rfl, rfl⟩;go_upto_region 5 with (fail)
 rw [zero18];obtain ⟨w2, hw2⟩ : ∃ x, w.alloc (.cells (fRow .u32 (fun _ => 0) 18) 216) = x := ⟨_, rfl⟩;obtain ⟨cb, hcb⟩ : ∃ x, w.heap.size = x := ⟨_, rfl⟩;have HC2 : Hid (w2.heap[cb]? = some (.cells (fRow .u32 (fun _ => 0) 18) 216 (0, 0))) := hd_ (by rw [<- hw2, <- hcb]; exact heap_alloc_new _ _);have HB2 : Hid (Below w.heap.size w w2) := hd_ (by rw [<- hw2]; exact (Below.refl _ _).alloc (Nat.le_refl _) _);have HCB : Hid (w.heap.size <= cb) := hd_ (Nat.le_of_eq hcb);rw [hw2, hcb];clear hw2 hcb CC;go_wp2_with fail
 go_loopg [7, 20] n (fun gk s7 s20 wr => ∃ i : Nat, i <= n /\ gk = n - i /\ s20 = .int .i64 (i : Nat) /\ wr.heap[cb]? = some (.cells (fRow .u32 (pf.cntF ls i) 18) 216 (0, 0)) /\ Below w.heap.size w wr)
 case atStart =>
  refine ⟨0, Nat.zero_le _, rfl, by go_num, ?_, HB2.out⟩;rw [fRow_congr .u32 (f := fun _ => 0) (g := pf.cntF ls 0) (fun i _ => by unfold pf.cntF; split <;> simp)];exact HC2.out
 case round =>
  obtain ⟨i, hi, hg, rfl, hc, hb⟩ := hrel;have Hg := hd_ hg;have HC := hd_ hc;have HB := hd_ hb;clear hg hc hb HC2 HB2;by_cases hlt : i < n
  ·obtain ⟨b, off, rfl, hce⟩ := (HS.out.below HB.out).cells (by omega)
   have k0 := hce i hlt;rw [nats_get] at k0;have hil : i < ls.length := (by rw [HL.out]; exact hlt);have h16 := HOK.out.le _ (pf.getD_mem hil);have HSM := hd_ (fun h0 j => pf.cntF_same hil h0 j);have HHE := hd_ (fun h0 => pf.cntF_here hil h0);have HOT := hd_ (fun j h => pf.cntF_other hil (j := j) h);have hi1 : (i : Int) < (n : Int) := (by omega);have hic : ¬ cap = i := (by omega);obtain ⟨l, hl⟩ : ∃ l, ls.getD i 0 = l := ⟨_, rfl⟩;rw [hl] at k0 h16 HSM HHE HOT;clear hce hl hil;by_cases hl0 : 0 < l
   ·have c0 := fRow_cell (j := l) HC.out (by omega)
    have f0 := frozen_of_row wr cb l _ _ HC.out;have hcl := pf.cntF_le ls i l;rw [HL.out] at hcl;obtain ⟨q, hq⟩ : ∃ q, pf.cntF ls i l = q := ⟨_, rfl⟩;rw [hq] at c0 hcl HHE;have hw1 : IntKind.u32.wrap ((q : Int) + 1) = ((q + 1 : Nat) : Int) := (IntWalk.u32_in _ (by omega)).trans (by omega);have hl18 : (l : Int) < 18 := (by omega);have HL0 := hd_ hl0;clear hq;go_wp2_with fail
    go_roundg (n - (i + 1))
    case measure => have := Hg.out; omega
    case rel => exact ⟨i + 1, by omega, rfl, by go_num, fRow_store HC.out (pf.cntF ls (i + 1)) (q + 1) (HHE.out (by have := HL0.out; omega)) (fun j _ hj => HOT.out j hj), HB.out.setCell (p := ⟨cb, l, none⟩) HCB.out _⟩
   ·obtain rfl : l = 0 := by omega
    go_wp2_with fail
    go_roundg (n - (i + 1))
    case measure => have := Hg.out; omega
    case rel =>
     refine ⟨i + 1, by omega, rfl, by go_num, ?_, HB.out⟩;rw [fRow_congr .u32 (f := pf.cntF ls i) (g := pf.cntF ls (i + 1)) (fun j _ => HSM.out trivial j)];exact HC.out
  ·obtain rfl : i = n := by omega
   clear Hg hlt hi;go_upto_region 12 with (fail)
   rw [zero18];obtain ⟨w3, hw3⟩ : ∃ x, wr.alloc (.cells (fRow .u32 (fun _ => 0) 18) 216) = x := ⟨_, rfl⟩;obtain ⟨nb, hnb⟩ : ∃ x, wr.heap.size = x := ⟨_, rfl⟩;have HN3 : Hid (w3.heap[nb]? = some (.cells (fRow .u32 (fun _ => 0) 18) 216 (0, 0))) := hd_ (by rw [<- hw3, <- hnb]; exact heap_alloc_new _ _);have hb3 : Below wr.heap.size wr w3 := (by rw [<- hw3]; exact (Below.refl _ _).alloc (Nat.le_refl _) _);have HC3 := hd_ ((hb3.block _ (block_lt HC.out)).trans HC.out);have HB3 := hd_ (HB.out.trans (hb3.mono HB.out.size));have HNB : Hid (w.heap.size <= nb /\ cb ≠ nb) := hd_ (by have h1 := HB.out.size; have h2 := block_lt HC.out; omega);rw [hw3, hnb];clear hw3 hnb hb3 HC HB;go_wp2_with fail
   go_loopg [9] 16 (fun gk s9 wr => ∃ m : Nat, 1 <= m /\ m <= 17 /\ gk = 17 - m /\ s9 = .int .i64 (m : Nat) /\ wr.heap[nb]? = some (.cells (fRow .u32 (pf.nxF ls m) 18) 216 (0, 0)) /\ wr.heap[cb]? = some (.cells (fRow .u32 (pf.cntF ls i) 18) 216 (0, 0)) /\ Below w.heap.size w wr)
   case atStart =>
    refine ⟨1, Nat.le_refl _, by decide, rfl, by go_num, ?_, HC3.out, HB3.out⟩;rw [fRow_congr .u32 (f := fun _ => 0) (g := pf.nxF ls 1) (fun j _ => by
     unfold pf.nxF;rcases (show j = 0 \/ j = 1 \/ ¬ j <= 1 by omega) with rfl | rfl | h
     ·rfl
     ·rfl
     ·rw [if_neg h])]
    exact HN3.out
   case round =>
    obtain ⟨m, hm1, hm2, hg, rfl, hnx, hc, hb⟩ := hrel;have Hg := hd_ hg;have HNX := hd_ hnx;have HC := hd_ hc;have HB := hd_ hb;clear hg hnx hc hb HN3 HC3 HB3;by_cases hlt : m <= 16
    ·have n0 := fRow_cell (j := m) HNX.out (by omega)
     have c0 := fRow_cell (j := m) HC.out (by omega);have hst := fun v => HC.out.symm.trans (heap_setCell_other wr ⟨nb, m + 1, none⟩ cb v HNB.out.2).symm
     have f0 := frozen_of_row wr nb (m + 1) _ _ HNX.out;have n1 := fRow_cell (j := m + 1) HNX.out (by omega);have hfit2 := pf.fits HOK.out hm1 hlt;have hp16 : 2 ^ m <= 2 ^ 16 := Nat.pow_le_pow_right (by decide) hlt;have hcm : pf.cntF ls i m = ls.count m := (by unfold pf.cntF; rw [if_neg (by omega), List.take_of_length_le (Nat.le_of_eq HL.out)]);have hnm : pf.nxF ls m m = pf.first ls m := (by unfold pf.nxF; rw [if_pos (Nat.le_refl _)]);have HF : Hid (pf.first ls (m + 1) = 2 * (pf.first ls m + ls.count m)) := hd_ (pf.first_succ ls hm1);rw [hcm] at c0;rw [hnm] at n0;obtain ⟨x, hx⟩ : ∃ x, pf.first ls m = x := ⟨_, rfl⟩;obtain ⟨y, hy⟩ : ∃ y, ls.count m = y := ⟨_, rfl⟩;rw [hx] at n0 hfit2 HF;rw [hy] at c0 hfit2 HF;have hxy : x + y <= 65536 := (by omega);obtain ⟨z, hz⟩ : ∃ z, pf.nxF ls m (m + 1) = z := ⟨_, rfl⟩;rw [hz] at n1;obtain ⟨m1, hm1e⟩ : ∃ m1, m + 1 = m1 := ⟨_, rfl⟩;obtain ⟨s1, hs1e⟩ : ∃ s1, x + y = s1 := ⟨_, rfl⟩;obtain ⟨s2, hs2e⟩ : ∃ s2, 2 * s1 = s2 := ⟨_, rfl⟩;have sm : (m : Int) + 1 = (m1 : Int) := (by omega);have e1 : IntKind.u32.wrap ((x : Int) + (y : Int)) = (s1 : Int) := (IntWalk.u32_in _ (by omega)).trans (by omega);have e2 : IntKind.u32.wrap ((s1 : Int) * 2) = (s2 : Int) := (IntWalk.u32_in _ (by omega)).trans (by omega);have HF2 : Hid (pf.first ls m1 = s2) := hd_ (by rw [<- hm1e, HF.out, hs1e, hs2e]);have HM1 := hd_ hm1e;rw [hm1e] at f0 n1;have hm18 : (m : Int) < 18 := (by omega);have hm19 : (m1 : Int) < 18 := (by omega);clear hst hx hy hfit2 hp16 hcm hnm hz hm1e hs1e hs2e HF hxy;go_upto_region 15 with (fail)
     go_region
     go_wp2_with fail
     go_roundg (17 - m1)
     case measure => have := Hg.out; have := HM1.out; omega
     case rel =>
      have hm := HM1.out;have k1 := fRow_store (j := m1) HNX.out (pf.nxF ls m1) s2 (by unfold pf.nxF; rw [if_pos (Nat.le_refl _)]; exact HF2.out) (fun j _ hj => by
       unfold pf.nxF;by_cases h : j <= m
       ·rw [if_pos h, if_pos (by omega)]
       ·rw [if_neg h, if_neg (by omega)])
      have k2 := (heap_setCell_other wr ⟨nb, m1, none⟩ cb (.int .u32 (s2 : Nat)) HNB.out.2).trans HC.out;have k3 := HB.out.setCell (p := ⟨nb, m1, none⟩) HNB.out.1 (.int .u32 (s2 : Nat));exact ⟨m1, by omega, by omega, rfl, rfl, k1, k2, Below.drew k3⟩
    ·obtain rfl : m = 17 := by omega
     clear Hg hlt hm1 hm2;have hmk := make_u32 i (by omega) wr;go_upto_region 17 with (fail)
     obtain ⟨w4, hw4⟩ : ∃ x, wr.alloc (.cells (fRow .u32 (fun _ => 0) i) 45) = x := ⟨_, rfl⟩;obtain ⟨ob, hob⟩ : ∃ x, wr.heap.size = x := ⟨_, rfl⟩;have hb4 : Below wr.heap.size wr w4 := (by rw [<- hw4]; exact (Below.refl _ _).alloc (Nat.le_refl _) _);have HO4 : Hid (w4.heap[ob]? = some (.cells (fRow .u32 (fun _ => 0) i) 45 (0, 0))) := hd_ (by rw [<- hw4, <- hob]; exact heap_alloc_new _ _);have HN4 := hd_ ((hb4.block _ (block_lt HNX.out)).trans HNX.out);have HB4 := hd_ (HB.out.trans (hb4.mono HB.out.size));have HOB : Hid (w.heap.size <= ob /\ nb ≠ ob) := hd_ (by have h1 := HB.out.size; have h2 := block_lt HNX.out; omega);rw [hw4, hob];clear hw4 hob hb4 hmk HC HB HNX;go_wp2_with fail
     go_loopg [11, 12, 52] i (fun gk s11 s12 s52 wr => ∃ k : Nat, k <= i /\ gk = i - k /\ s52 = .int .i64 (k : Nat) /\ wr.heap[nb]? = some (.cells (fRow .u32 (pf.goF ls k) 18) 216 (0, 0)) /\ wr.heap[ob]? = some (.cells (fRow .u32 (pf.codF ls k) i) 45 (0, 0)) /\ Below w.heap.size w wr)
     case atStart =>
      refine ⟨0, Nat.zero_le _, rfl, by go_num, ?_, ?_, HB4.out⟩
      ·rw [fRow_congr .u32 (f := pf.nxF ls 17) (g := pf.goF ls 0) (fun j hj => by
        unfold pf.nxF pf.goF pf.cntF;rw [if_pos (show j <= 17 by omega)];split <;> simp)]
       exact HN4.out
      ·rw [fRow_congr .u32 (f := fun _ => 0) (g := pf.codF ls 0) (fun j _ => by unfold pf.codF; rw [if_neg (by omega)])]
       exact HO4.out
     case round =>
      obtain ⟨k, hk, hg, rfl, hnx, ho, hb⟩ := hrel;have Hg := hd_ hg;have HNX := hd_ hnx;have HO := hd_ ho;have HB := hd_ hb;clear hg hnx ho hb HN4 HO4 HB4;by_cases hlt : k < i
      ·obtain ⟨b, off, rfl, hce⟩ := (HS.out.below HB.out).cells (by omega)
       have k0 := hce k hlt;rw [nats_get] at k0;have hil : k < ls.length := (by rw [HL.out]; exact hlt);have h16 := HOK.out.le _ (pf.getD_mem hil);have hi1 : (k : Int) < (i : Int) := (by omega);have hic : ¬ cap = k := (by omega);have hin : ¬ i = k := (by omega);by_cases hl0 : 0 < ls.getD k 0
       ·have hcode : pf.goF ls k (ls.getD k 0) = pf.code ls k := by unfold pf.goF pf.code pf.cntF pf.rank; rw [if_neg (by omega)]
        have hclt := pf.code_lt HOK.out hil hl0;have hp16 : 2 ^ ls.getD k 0 <= 2 ^ 16 := Nat.pow_le_pow_right (by decide) h16;have HCO : Hid (pf.codF ls (k + 1) k = pf.code ls k) := hd_ (by unfold pf.codF; rw [if_pos (by omega)]);have HCX : Hid (∀ s, s ≠ k -> pf.codF ls (k + 1) s = pf.codF ls k s) := hd_ (fun s hs => by
         unfold pf.codF;by_cases h : s < k /\ ls.getD s 0 ≠ 0
         ·rw [if_pos h, if_pos ⟨by omega, h.2⟩]
         ·rw [if_neg h, if_neg (fun h2 => h ⟨by omega, h2.2⟩)])
        have HHE : Hid (pf.goF ls (k + 1) (ls.getD k 0) = pf.code ls k + 1) := hd_ (by
         rw [<- hcode];unfold pf.goF;rw [pf.cntF_here hil (by omega)];omega)
        have HOT : Hid (∀ j, j ≠ ls.getD k 0 -> pf.goF ls (k + 1) j = pf.goF ls k j) := hd_ (fun j hj => by unfold pf.goF; rw [pf.cntF_other hil hj]);have n0 := fRow_cell (j := ls.getD k 0) HNX.out (by omega);have fn := frozen_of_row wr nb (ls.getD k 0) _ _ HNX.out;have o0 := fRow_cell (j := k) HO.out hlt;have fo := frozen_of_row wr ob k _ _ HO.out;rw [hcode] at n0;obtain ⟨l, hl⟩ : ∃ l, ls.getD k 0 = l := ⟨_, rfl⟩;obtain ⟨x, hx⟩ : ∃ x, pf.code ls k = x := ⟨_, rfl⟩;obtain ⟨z, hz⟩ : ∃ z, pf.codF ls k k = z := ⟨_, rfl⟩;rw [hl] at k0 h16 hl0 hclt hp16 HHE HOT n0 fn;rw [hx] at hclt HCO HHE n0;rw [hz] at o0;have hx2 : x < 65536 := (by omega);have e1 : IntKind.u32.wrap ((x : Int) + 1) = ((x + 1 : Nat) : Int) := (IntWalk.u32_in _ (by omega)).trans (by omega);obtain ⟨x1, hx1⟩ : ∃ x1, x + 1 = x1 := ⟨_, rfl⟩;rw [hx1] at e1 HHE;have hl18 : (l : Int) < 18 := (by omega);have n2 : (wr.setCell ⟨ob, k, none⟩ (.int .u32 (x : Nat))).heap[nb]? = some (.cells (fRow .u32 (pf.goF ls k) 18) 216 (0, 0)) := (heap_setCell_other wr ⟨ob, k, none⟩ nb _ HOB.out.2).trans HNX.out;have N2 := hd_ n2;have n3 := fRow_cell (j := l) n2 (by omega);rw [show pf.goF ls k l = x by rw [<- hl, hcode, hx]] at n3;have f3 := frozen_of_row _ nb l _ _ n2;clear hce hl hx hz hx1 hcode hil hclt hp16 n2;go_wp2_with fail
        go_roundg (i - (k + 1))
        case measure => have := Hg.out; omega
        case rel =>
         have k1 := fRow_store (j := k) HO.out (pf.codF ls (k + 1)) x HCO.out (fun s _ hs => HCX.out s hs);have k2 := fRow_store (j := l) N2.out (pf.goF ls (k + 1)) x1 HHE.out (fun j _ hj => HOT.out j hj);have k3 := (heap_setCell_other (wr.setCell ⟨ob, k, none⟩ (.int .u32 (x : Nat))) ⟨nb, l, none⟩ ob (.int .u32 (x1 : Nat)) (fun e => HOB.out.2 e.symm)).trans k1;exact ⟨k + 1, by omega, rfl, by go_num, k2, k3, (HB.out.setCell (p := ⟨ob, k, none⟩) HOB.out.1 _).setCell (p := ⟨nb, l, none⟩) HNB.out.1 _⟩
       ·have h0 : ls.getD k 0 = 0 := by omega
        have HSM := hd_ (fun j => pf.cntF_same hil h0 j);have HCX : Hid (∀ s, pf.codF ls (k + 1) s = pf.codF ls k s) := hd_ (fun s => by
         unfold pf.codF;by_cases h : s < k /\ ls.getD s 0 ≠ 0
         ·rw [if_pos h, if_pos ⟨by omega, h.2⟩]
         ·rw [if_neg h, if_neg (fun h2 => h ⟨by
           rcases Nat.lt_or_ge s k with h3 | h3
           ·exact h3
           ·exact absurd (by rw [show s = k by omega]; exact h0) h2.2, h2.2⟩)])
        rw [h0] at k0;clear hce hil hl0 h0 h16;go_wp2_with fail
        go_roundg (i - (k + 1))
        case measure => have := Hg.out; omega
        case rel =>
         refine ⟨k + 1, by omega, rfl, by go_num, ?_, ?_, HB.out⟩
         ·rw [fRow_congr .u32 (f := pf.goF ls k) (g := pf.goF ls (k + 1)) (fun j _ => by unfold pf.goF; rw [HSM.out])]
          exact HNX.out
         ·rw [fRow_congr .u32 (f := pf.codF ls k) (g := pf.codF ls (k + 1)) (fun j _ => HCX.out j)]
          exact HO.out
      ·obtain rfl : k = i := by omega
       go_wp2_with fail
       go_ret2
       exact ⟨ob, rfl, HOB.out.1, HO.out, HB.out⟩
end Go.Proofs.YthpckmcgbmfmcaaGreatDoor
