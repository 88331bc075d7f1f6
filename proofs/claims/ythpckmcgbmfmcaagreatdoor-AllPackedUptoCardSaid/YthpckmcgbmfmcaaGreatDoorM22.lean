/- Texts of this claim, joined. -/
import Derived.Test.YthpckmcgbmfmcaaGreatDoorM20
import Derived.Test.YthpckmcgbmfmcaaGreatDoorM21
set_option maxRecDepth 100000
set_option maxHeartbeats 12800000
namespace Go.Proofs.YthpckmcgbmfmcaaGreatDoor
open Go.RowKit Go.Sort
def gRow (F : Nat -> Value) (m : Nat) : Array Value := ((List.range m).map F).toArray
theorem gRow_get (F : Nat -> Value) {m j : Nat} (h : j < m) : (gRow F m)[j]? = some (F j) := by simp [gRow, h]
theorem gRow_set (F G : Nat -> Value) {m j : Nat} (x : Value) (hx : G j = x) (h : ∀ i, i < m -> i ≠ j -> G i = F i) : (gRow F m).setIfInBounds j x = gRow G m := by
 apply Array.ext'
 apply List.ext_getElem?
 intro i;unfold gRow;rw [List.setIfInBounds_toArray, List.getElem?_set, List.getElem?_map, List.getElem?_map];by_cases hi : i < m
 ·rw [List.getElem?_range hi]
  by_cases e : j = i
  ·subst e
   simp [hi, hx]
  ·simp [e, h i hi (fun h => e h.symm)]
 ·rw [List.getElem?_eq_none (by simpa using hi)]
  by_cases e : j = i
  ·simp [e, hi]
  ·simp [e]
theorem gRow_store {w : World} {b j m : Nat} {t : TypeId} {F : Nat -> Value} (h : w.heap[b]? = some (.cells (gRow F m) t (0, 0))) (G : Nat -> Value) (x : Value) (hx : G j = x) (hg : ∀ i, i < m -> i ≠ j -> G i = F i) :
  (w.setCell ⟨b, j, none⟩ x).heap[b]? = some (.cells (gRow G m) t (0, 0)) := by
 rw [heap_setCell_same _ _ _ _ _ _ h, gRow_set F G x hx hg]
theorem gRow_cell {w : World} {b j m : Nat} {t : TypeId} {F : Nat -> Value} (h : w.heap[b]? = some (.cells (gRow F m) t (0, 0))) (hj : j < m) : w.cell? ⟨b, j, none⟩ = some (F j) :=
 (cell_of_row w b j _ _ (0, 0) h).trans (gRow_get F hj)
def OwnN (base : Nat) (w : World) (v : Value) (ls : List Nat) : Prop := w.ownsRow base 3 1 v ls.length ((nats ls).map (Value.int .i64))
theorem OwnN.below {base : Nat} {w w' : World} {v : Value} {ls : List Nat} (h : OwnN base w v ls) (hb : Below w.heap.size w w') : OwnN base w' v ls := ownsRow_below h hb
theorem run_append_nat (w : World) (ty : TypeId) (base : Nat) (v : Value) (ls : List Nat) (x : Nat) (h : OwnN base w v ls) (hl : ls.length <= 1099511627776) (hb : base <= w.heap.size) (g : Nat) (hg : w.heap[g]? = some (.cells #[.int .i64 (x : Nat)] 3 (0, 0))) :
  ∃ v' w', (Builtin.append_ #[59, 59] ty #[v, .slice (some ⟨g, 0, none⟩) 1 1]).run Tryz.prog w = .ok v' w' /\ (OwnN base w' v' (ls ++ [x]) /\ w.grownBy w' v.ownBlock /\ (v'.ownBlock = v.ownBlock \/ v'.ownBlock = some w.heap.size)) := by
 obtain ⟨i, hi, hz, hs, hby⟩ := info_parts infoI64;obtain ⟨v', w', h1, h2, h3, _, h5⟩ := run_append_own_at (P := Tryz.prog) w base 59 ty 3 i _ 1 8 Tryz.underlying59 hi hz hs hby rfl (by decide) v ls.length ((nats ls).map (Value.int .i64)) h ⟨g, 0, none⟩ 1 1 [.int .i64 (x : Nat)] rfl (by
  intro j u hu;rw [Addr.add_mid, Nat.zero_add, cell_of_row w g j _ _ (0, 0) hg];rw [<- hu];simp) (fun u hu => by rw [List.mem_singleton.1 hu]; rfl) (by unfold maxLen; omega) (by omega) hb
 refine ⟨v', w', h1, ?_, h3, h5⟩;unfold OwnN;rw [nats_append, List.map_append, List.length_append];exact h2
namespace pf
def dF (f s c : Nat -> Nat) (tv : Value) (dp : Nat) (j : Nat) : Value :=
 if j < 17 then .int .i64 (f j : Nat) else if j < 34 then .int .i64 (s (j - 17) : Nat) else if j < 51 then .int .i64 (c (j - 34) : Nat) else if j = 51 then tv else .int .i64 (dp : Nat)
def stF (ls : List Nat) (j : Nat) : Nat := if j = 0 then 0 else (table ls (j - 1)).length
def stM (ls : List Nat) (m j : Nat) : Nat := if j <= m then stF ls j else 0
def cnM (ls : List Nat) (m i j : Nat) : Nat := if j <= m then cntF ls ls.length j else if j = m + 1 then cntF ls i j else 0
def dpM (ls : List Nat) (m : Nat) : Nat := deep (ls.filter (· <= m))
def dpI (ls : List Nat) (m i : Nat) : Nat := if 0 < (ls.take i).count (m + 1) then m + 1 else dpM ls m
def cdF (ls : List Nat) (m : Nat) : Nat := if m = 0 then 0 else first ls m + ls.count m
def tbI (ls : List Nat) (m i : Nat) : List Nat := table ls m ++ idx (ls.take i) (m + 1)
theorem cdF_first (ls : List Nat) (m : Nat) : 2 * cdF ls m = first ls (m + 1) := by
 unfold cdF;by_cases h : m = 0
 ·rw [if_pos h, h]; rfl
 ·rw [if_neg h, first_succ ls (by omega)]
theorem cntF_all (ls : List Nat) {j : Nat} (h : j ≠ 0) : cntF ls ls.length j = ls.count j := by unfold cntF; rw [if_neg h, List.take_length]
theorem tbI_zero (ls : List Nat) (m : Nat) : tbI ls m 0 = table ls m := by simp [tbI, idx]
theorem tbI_all (ls : List Nat) (m : Nat) : tbI ls m ls.length = table ls (m + 1) := by unfold tbI; rw [List.take_length, table_succ]
theorem tbI_here {ls : List Nat} {m i : Nat} (h : i < ls.length) (he : ls.getD i 0 = m + 1) : tbI ls m (i + 1) = tbI ls m i ++ [i] := by
 unfold tbI;rw [take_snocN h, idx_snoc, if_pos he, List.length_take, Nat.min_eq_left (by omega), List.append_assoc]
theorem tbI_other {ls : List Nat} {m i : Nat} (h : i < ls.length) (he : ls.getD i 0 ≠ m + 1) : tbI ls m (i + 1) = tbI ls m i := by
 unfold tbI;rw [take_snocN h, idx_snoc, if_neg he, List.append_nil]
theorem dpI_zero (ls : List Nat) (m : Nat) : dpI ls m 0 = dpM ls m := by unfold dpI; rw [if_neg (by simp)]
theorem dpI_here {ls : List Nat} {m i : Nat} (h : i < ls.length) (he : ls.getD i 0 = m + 1) : dpI ls m (i + 1) = m + 1 := by
 unfold dpI;rw [if_pos];rw [take_snocN h, List.count_append, he, List.count_singleton_self];omega
theorem dpI_other {ls : List Nat} {m i : Nat} (h : i < ls.length) (he : ls.getD i 0 ≠ m + 1) : dpI ls m (i + 1) = dpI ls m i := by
 have e : (ls.take (i + 1)).count (m + 1) = (ls.take i).count (m + 1) := by
  rw [take_snocN h, List.count_append, List.count_singleton, if_neg (fun hb => he (by simpa using hb)), Nat.add_zero]
 unfold dpI;rw [e]
theorem deep_le {ls : List Nat} {m : Nat} (h : ∀ l ∈ ls, l <= m) : deep ls <= m := by
 rcases Nat.eq_zero_or_pos (deep ls) with h0 | h0
 ·omega
 ·exact h _ (deep_mem (by omega))
theorem dpI_all (ls : List Nat) (m : Nat) : dpI ls m ls.length = dpM ls (m + 1) := by
 unfold dpI;rw [List.take_length];have hle : dpM ls (m + 1) <= m + 1 := deep_le fun l hl => by simpa using (List.mem_filter.1 hl).2
 by_cases h : 0 < ls.count (m + 1)
 ·rw [if_pos h]
  have hm := List.count_pos_iff.1 h;have := le_deep (ls := ls.filter (· <= m + 1)) (List.mem_filter.2 ⟨hm, by simp⟩);unfold dpM at hle ⊢;omega
 ·rw [if_neg h]
  have hn : (m + 1) ∉ ls := fun hm => h (List.count_pos_iff.2 hm)
  unfold dpM;congr 1
  refine List.filter_congr fun l hl => ?_
  have : l ≠ m + 1 := fun e => hn (e ▸ hl)
  have h2 : (l <= m) ↔ (l <= m + 1) := by omega
  simp [h2]
theorem dpM_zero (ls : List Nat) : dpM ls 0 = 0 := by
 have : dpM ls 0 <= 0 := deep_le fun l hl => by simpa using (List.mem_filter.1 hl).2
 omega
theorem dpM_all {ls : List Nat} (h : ∀ l ∈ ls, l <= 16) : dpM ls 16 = deep ls := by
 unfold dpM;congr 1
 exact List.filter_eq_self.2 fun l hl => by simpa using h l hl
theorem table_length_le (ls : List Nat) (m : Nat) : (table ls m).length <= m * ls.length := by
 induction m with
 | zero => simp [table]
 | succ m ih =>
  rw [table_succ, List.length_append, idx_length, Nat.succ_mul];have := List.count_le_length (a := m + 1) (l := ls);omega
end pf
structure Dec (base : Nat) (w : World) (g : Nat) (ls : List Nat) (tv : Value) : Prop where
 head : w.heap[g]? = some (.cells (gRow (pf.dF (pf.first ls) (pf.stF ls) (pf.cntF ls ls.length) tv (pf.deep ls)) 53) 230 (0, 0))
 tab : OwnN base w tv (pf.table ls 16)
 lies : base <= g
theorem zero53 : (#[.int .i64 0, .int .i64 0, .int .i64 0, .int .i64 0, .int .i64 0, .int .i64 0, .int .i64 0, .int .i64 0, .int .i64 0, .int .i64 0, .int .i64 0, .int .i64 0, .int .i64 0, .int .i64 0, .int .i64 0, .int .i64 0, .int .i64 0, .int .i64 0, .int .i64 0, .int .i64 0, .int .i64 0, .int .i64 0, .int .i64 0, .int .i64 0, .int .i64 0, .int .i64 0, .int .i64 0, .int .i64 0, .int .i64 0, .int .i64 0, .int .i64 0, .int .i64 0, .int .i64 0, .int .i64 0, .int .i64 0, .int .i64 0, .int .i64 0, .int .i64 0, .int .i64 0, .int .i64 0, .int .i64 0, .int .i64 0, .int .i64 0, .int .i64 0, .int .i64 0, .int .i64 0, .int .i64 0, .int .i64 0, .int .i64 0, .int .i64 0, .int .i64 0, .slice none 0 0, .int .i64 0] : Array Value) = gRow (pf.dF (fun _ => 0) (fun _ => 0) (fun _ => 0) (.slice none 0 0) 0) 53 := rfl
structure NewI (w : World) (base g : Nat) (ls : List Nat) (m i : Nat) (f s : Nat) (tv : Value) (wr : World) : Prop where
 head : wr.heap[g]? = some (.cells (gRow (pf.dF (pf.nxF ls f) (pf.stM ls s) (pf.cnM ls m i) tv (pf.dpI ls m i)) 53) 230 (0, 0))
 tab : OwnN base wr tv (pf.tbI ls m i)
 below : Below w.heap.size w wr
 size : base <= wr.heap.size
theorem NewI.next {w : World} {base g : Nat} {ls : List Nat} {m : Nat} {tv : Value} {wr : World} (h : NewI w base g ls m ls.length (m + 1) (m + 1) tv wr) : NewI w base g ls (m + 1) 0 (m + 1) (m + 1) tv wr := by
 refine ⟨?_, ?_, h.below, h.size⟩
 ·have e : pf.dpI ls (m + 1) 0 = pf.dpI ls m ls.length := by rw [pf.dpI_zero, pf.dpI_all]
  rw [e, show pf.cnM ls (m + 1) 0 = pf.cnM ls m ls.length from ?_]
  ·exact h.head
  ·funext j
   unfold pf.cnM;by_cases h1 : j <= m
   ·rw [if_pos (by omega), if_pos h1]
   ·rw [if_neg h1]
    by_cases h2 : j = m + 1
    ·rw [if_pos (by omega), if_pos h2]
    ·rw [if_neg (by omega), if_neg h2]
     by_cases h3 : j = m + 1 + 1
     ·rw [if_pos h3]
      unfold pf.cntF;split
      ·rfl
      ·simp
     ·rw [if_neg h3]
 ·rw [pf.tbI_zero, <- pf.tbI_all]
  exact h.tab
def NewPost (ls : List Nat) (w : World) (e : Ending) (w' : World) : Prop := ∃ g tv, e = .returned (.tuple #[.pointer (some ⟨g, 0, none⟩), .int .i64 0]) /\ Dec w.heap.size w' g ls tv /\ Below w.heap.size w w'
theorem new_any (a : Option Addr) (n cap : Nat) (ls : List Nat) (w : World) (h : Sl .i64 w a n cap (nats ls)) (hn : n <= 4096) (hok : pf.Ok ls) :
  Calls Tryz.prog 115 #[.slice a n cap] w (NewPost ls w) := by
 have hl : ls.length = n := by have := h.len; rwa [nats_length] at this
 have CC := hd_ (checked_any a n cap ls w h hn hok);have HS := hd_ h;have HL := hd_ hl;have HOK := hd_ hok;have hfit := h.fits;clear h hl hok;go_enter Tryz.func115, Tryz.ntmps115
 go_wp2_with fail
 refine CC.out.mono ?_;rintro e w1 ⟨rfl, rfl⟩;go_upto_region 6 with (fail)
 rw [zero53];obtain ⟨w2, hw2⟩ : ∃ x, w.alloc (.cells (gRow (pf.dF (fun _ => 0) (fun _ => 0) (fun _ => 0) (.slice none 0 0) 0) 53) 230) = x := ⟨_, rfl⟩;obtain ⟨g, hg⟩ : ∃ x, w.heap.size = x := ⟨_, rfl⟩;have HG2 : Hid (w2.heap[g]? = some (.cells (gRow (pf.dF (fun _ => 0) (fun _ => 0) (fun _ => 0) (.slice none 0 0) 0) 53) 230 (0, 0))) := hd_ (by rw [<- hw2, <- hg]; exact heap_alloc_new _ _);have HB2 : Hid (Below w.heap.size w w2) := hd_ (by rw [<- hw2]; exact (Below.refl _ _).alloc (Nat.le_refl _) _);have HGB : Hid (w.heap.size <= g /\ g < w2.heap.size) := hd_ ⟨Nat.le_of_eq hg, block_lt HG2.out⟩;rw [hw2, hg];clear hw2 hg CC;obtain ⟨base, hbase⟩ : ∃ b, w2.heap.size = b := ⟨_, rfl⟩;rw [hbase] at HGB;have HBA : Hid (base <= w2.heap.size /\ w.heap.size <= base) := hd_ (by have h1 := HB2.out.size; omega);clear hbase;go_wp2_with fail
 go_loopg [6, 7, 8, 9] 16 (fun gk s6 s7 s8 s9 wr => ∃ (m : Nat) (tv : Value), m <= 16 /\ gk = 16 - m /\ s6 = .int .i64 (pf.cdF ls m : Nat) /\ s7 = .int .i64 (m + 1 : Nat) /\ NewI w base g ls m 0 m m tv wr)
 case atStart =>
  refine ⟨0, .slice none 0 0, Nat.zero_le _, rfl, rfl, rfl, ?_, ?_, HB2.out, HBA.out.1⟩
  ·rw [pf.dpI_zero, pf.dpM_zero]
   have e : gRow (pf.dF (pf.nxF ls 0) (pf.stM ls 0) (pf.cnM ls 0 0) (.slice none 0 0) 0) 53 = gRow (pf.dF (fun _ => 0) (fun _ => 0) (fun _ => 0) (.slice none 0 0) 0) 53 := rfl;rw [e];exact HG2.out
  ·rw [pf.tbI_zero]
   exact World.ownsRow_nil _ _ _ _
 case round =>
  obtain ⟨m, tv, hm, hg, rfl, rfl, hI⟩ := hrel;have Hg := hd_ hg;have HI := hd_ hI;clear hg hI HG2;by_cases hlt : m < 16
  ·have hcd : pf.cdF ls m <= 65536 := by
    unfold pf.cdF;split
    ·omega
    ·have h1 := pf.fits HOK.out (n := m) (by omega) (by omega)
     have h2 : 2 ^ m <= 2 ^ 16 := Nat.pow_le_pow_right (by decide) (by omega);omega
   have hfs := pf.cdF_first ls m;have HF : Hid (pf.nxF ls (m + 1) (m + 1) = 2 * pf.cdF ls m) := hd_ (by unfold pf.nxF; rw [if_pos (Nat.le_refl _), hfs]);have HFF : Hid (pf.cdF ls (m + 1) = 2 * pf.cdF ls m + ls.count (m + 1)) := hd_ (by rw [hfs]; unfold pf.cdF; rw [if_neg (by omega)]);have htl := pf.table_length_le ls m;rw [HL.out] at htl;have htl2 : (pf.tbI ls m 0).length <= 65536 := by
    rw [pf.tbI_zero];exact Nat.le_trans htl (Nat.le_trans (Nat.mul_le_mul (by omega : m <= 16) hn) (by decide))
   have HST : Hid (pf.stM ls (m + 1) (m + 1) = (pf.tbI ls m 0).length) := hd_ (by unfold pf.stM pf.stF; rw [if_pos (Nat.le_refl _), if_neg (by omega), pf.tbI_zero, Nat.add_sub_cancel]);obtain ⟨c, hc⟩ : ∃ c, pf.cdF ls m = c := ⟨_, rfl⟩;rw [hc] at hcd HF HFF ⊢;obtain ⟨c2, hc2⟩ : ∃ c2, 2 * c = c2 := ⟨_, rfl⟩;have s2 : IntKind.i64.wrap ((c : Int) * 2) = (c2 : Int) := i64o (by omega) (by omega);rw [hc2] at HF HFF;have hc2b : c2 <= 131072 := (by omega);obtain ⟨m1, hm1⟩ : ∃ m1, m + 1 = m1 := ⟨_, rfl⟩;have hm16 : decide ((m1 : Int) <= 16) = true := (by simp; omega);have HM1 := hd_ hm1;obtain ⟨ta, tc, etv, _, _, _⟩ := own_slice' HI.out.tab;subst etv;obtain ⟨tn, htn⟩ : ∃ tn, (pf.tbI ls m 0).length = tn := ⟨_, rfl⟩;have HTN := hd_ htn;have HIH : Hid (wr.heap[g]? = some (.cells (gRow (pf.dF (pf.nxF ls m) (pf.stM ls m) (pf.cnM ls m 0) (.slice ta tn tc) (pf.dpI ls m 0)) 53) 230 (0, 0))) := hd_ (by rw [<- htn]; exact HI.out.head);have HIT : Hid (OwnN base wr (.slice ta tn tc) (pf.tbI ls m 0)) := hd_ (by rw [<- htn]; exact HI.out.tab);have HIB := hd_ (And.intro HI.out.below HI.out.size);rw [htn] at htl2 HST;rw [hm1];rw [hm1] at HF HFF HST;have t51 := (gRow_cell (j := 51) HIH.out (by decide)).trans (show _ = some (Value.slice ta tn tc) from rfl);have q1 := gRow_cell (j := m1) HIH.out (by omega);have hr1 : pf.dF (pf.nxF ls m) (pf.stM ls m) (pf.cnM ls m 0) (.slice ta tn tc) (pf.dpI ls m 0) m1 = .int .i64 (pf.nxF ls m m1 : Nat) := (by unfold pf.dF; rw [if_pos (by omega)]);rw [hr1] at q1;have fr1 := frozen_of_row wr g m1 _ _ HIH.out;have hd1 := gRow_store (j := m1) HIH.out (pf.dF (pf.nxF ls m1) (pf.stM ls m) (pf.cnM ls m 0) (.slice ta tn tc) (pf.dpI ls m 0)) (.int .i64 (c2 : Nat)) (by unfold pf.dF; rw [if_pos (by omega), HF.out]) (fun j hj hne => by
    unfold pf.dF pf.nxF;by_cases h1 : j < 17
    ·rw [if_pos h1, if_pos h1]
     by_cases h2 : j <= m
     ·rw [if_pos h2, if_pos (by omega)]
     ·rw [if_neg h2, if_neg (by omega)]
    ·rw [if_neg h1, if_neg h1])
   have HD1 := hd_ hd1;have q2 := gRow_cell (j := 17 + m1) hd1 (by omega);have hr2 : pf.dF (pf.nxF ls m1) (pf.stM ls m) (pf.cnM ls m 0) (.slice ta tn tc) (pf.dpI ls m 0) (17 + m1) = .int .i64 (pf.stM ls m m1 : Nat) := (by unfold pf.dF; rw [if_neg (by omega), if_pos (by omega), Nat.add_sub_cancel_left]);rw [hr2] at q2;have fr2 := frozen_of_row _ g (17 + m1) _ _ hd1;have hm17 : (m1 : Int) < 17 := (by omega);clear hc hc2 hm1 htl htn hfs hr1 hr2 hd1 HI HIH;go_upto_region 10 with (fail)
   go_region
   have hd2 := gRow_store (j := 17 + m1) HD1.out (pf.dF (pf.nxF ls m1) (pf.stM ls m1) (pf.cnM ls m 0) (.slice ta tn tc) (pf.dpI ls m 0)) (.int .i64 (tn : Nat)) (by unfold pf.dF; rw [if_neg (by omega), if_pos (by omega), Nat.add_sub_cancel_left, HST.out]) (fun j hj hne => by
    have hm1 := HM1.out;unfold pf.dF pf.stM;by_cases h1 : j < 17
    ·rw [if_pos h1, if_pos h1]
    ·rw [if_neg h1, if_neg h1]
     by_cases h2 : j < 34
     ·rw [if_pos h2, if_pos h2]
      by_cases h3 : j - 17 <= m
      ·rw [if_pos h3, if_pos (by omega)]
      ·rw [if_neg h3, if_neg (by omega)]
     ·rw [if_neg h2, if_neg h2])
   have hb2 : Below w.heap.size w ((wr.setCell ⟨g, m1, none⟩ (.int .i64 (c2 : Nat))).setCell ⟨g, 17 + m1, none⟩ (.int .i64 (tn : Nat))).drew := Below.drew ((HIB.out.1.setCell (p := ⟨g, m1, none⟩) HGB.out.1 _).setCell (p := ⟨g, 17 + m1, none⟩) HGB.out.1 _);have ht2 : OwnN base ((wr.setCell ⟨g, m1, none⟩ (.int .i64 (c2 : Nat))).setCell ⟨g, 17 + m1, none⟩ (.int .i64 (tn : Nat))).drew (.slice ta tn tc) (pf.tbI ls m 0) := by
    have hgr := (grownBy_setCell3 wr g m1 (.int .i64 (c2 : Nat))).trans (grownBy_setCell3 _ g (17 + m1) (.int .i64 (tn : Nat)));have hne : some g ≠ (Value.slice ta tn tc).ownBlock := fun e => by
     have h1 := (World.ownsRow.lt HIT.out g e.symm).1;have h2 := HGB.out.2;omega
    exact ownsRow_below (World.ownsRow.kept HIT.out hgr (.inr (Ne.symm hne))) (Below.drew (Below.refl _ _))
   have hz2 : base <= ((wr.setCell ⟨g, m1, none⟩ (.int .i64 (c2 : Nat))).setCell ⟨g, 17 + m1, none⟩ (.int .i64 (tn : Nat))).drew.heap.size := by
    have h1 := HIB.out.2;have h2 := ((grownBy_setCell3 wr g m1 (.int .i64 (c2 : Nat))).trans (grownBy_setCell3 _ g (17 + m1) (.int .i64 (tn : Nat)))).size;exact Nat.le_trans h1 h2
   have hI2 : NewI w base g ls m 0 m1 m1 (.slice ta tn tc) ((wr.setCell ⟨g, m1, none⟩ (.int .i64 (c2 : Nat))).setCell ⟨g, 17 + m1, none⟩ (.int .i64 (tn : Nat))).drew := ⟨hd2, ht2, hb2, hz2⟩;generalize ((wr.setCell ⟨g, m1, none⟩ (.int .i64 (c2 : Nat))).setCell ⟨g, 17 + m1, none⟩ (.int .i64 (tn : Nat))).drew = w3 at *;have HI := hd_ hI2;clear q1 q2 fr1 fr2 t51 hd2 hb2 ht2 hz2 hI2 HD1 HIT HIB HTN HST HF;go_wp2_with fail
   go_loopg [8, 9, 41] n (fun gk s8 s9 s41 wr => ∃ (i : Nat) (tv : Value), i <= n /\ gk = n - i /\ s41 = .int .i64 (i : Nat) /\ NewI w base g ls m i m1 m1 tv wr)
   case atStart => exact ⟨0, _, Nat.zero_le _, rfl, by go_num, HI.out⟩
   case round =>
    obtain ⟨i, tv, hi, hg, rfl, hI⟩ := hrel;have Hgi := hd_ hg;clear HI;have HI := hd_ hI;clear hg hI;by_cases hin : i < n
    ·obtain ⟨b, off, rfl, hce⟩ := (HS.out.below HI.out.below).cells (by omega)
     have k0 := hce i hin;rw [nats_get] at k0;have hil : i < ls.length := (by rw [HL.out]; exact hin);have hi1 : (i : Int) < (n : Int) := (by omega);have hic : ¬ cap = i := (by omega);by_cases he : ls.getD i 0 = m1
     ·have hm1 := HM1.out
      have HT := hd_ (pf.tbI_here (m := m) hil (he.trans hm1.symm));have HDP := hd_ (pf.dpI_here (m := m) hil (he.trans hm1.symm));have hch := pf.cntF_here hil (by omega);have hco := fun j h => pf.cntF_other hil (j := j) h
      rw [he] at k0 hch hco;have HCH := hd_ hch;have HCO := hd_ hco;have hcl := pf.cntF_le ls i m1;rw [HL.out] at hcl;have HCN : Hid (pf.cnM ls m i m1 = pf.cntF ls i m1) := hd_ (by unfold pf.cnM; rw [if_neg (by omega), if_pos hm1.symm]);obtain ⟨q, hq⟩ : ∃ q, pf.cntF ls i m1 = q := ⟨_, rfl⟩;rw [hq] at hcl HCN HCH;have hq1 : IntKind.i64.wrap ((q : Int) + 1) = ((q + 1 : Nat) : Int) := i64o (by omega) (by omega);obtain ⟨qq, hqq⟩ : ∃ qq, q + 1 = qq := ⟨_, rfl⟩;rw [hqq] at hq1 HCH;obtain ⟨ta', tc', etv, _, _, _⟩ := own_slice' HI.out.tab;subst etv;obtain ⟨tn', htn'⟩ : ∃ x, (pf.tbI ls m i).length = x := ⟨_, rfl⟩;have hil2 : (pf.tbI ls m i).length <= 1099511627776 := by
       unfold pf.tbI;have h1 := pf.table_length_le ls m;have h2 : m * ls.length <= 16 * 4096 := Nat.mul_le_mul (by omega) (by rw [HL.out]; exact hn);rw [List.length_append, pf.idx_length];have h3 := List.count_le_length (a := m + 1) (l := ls.take i);rw [List.length_take] at h3;omega
      have HIH : Hid (wr.heap[g]? = some (.cells (gRow (pf.dF (pf.nxF ls m1) (pf.stM ls m1) (pf.cnM ls m i) (.slice ta' tn' tc') (pf.dpI ls m i)) 53) 230 (0, 0))) := hd_ (by rw [<- htn']; exact HI.out.head);have HIT : Hid (OwnN base wr (.slice ta' tn' tc') (pf.tbI ls m i)) := hd_ (by rw [<- htn']; exact HI.out.tab);have HIB := hd_ (And.intro HI.out.below HI.out.size);have t51 := (gRow_cell (j := 51) HIH.out (by decide)).trans (show _ = some (Value.slice ta' tn' tc') from rfl);have hB9 : Below wr.heap.size wr (wr.alloc (.cells #[.int .i64 (i : Nat)] 3)) := (Below.refl _ _).alloc (Nat.le_refl _) _;have HGN := hd_ (heap_alloc_new wr (.cells #[.int .i64 (i : Nat)] 3));have HT9 := hd_ (HIT.out.below hB9);have HH9 := hd_ ((hB9.block _ (block_lt HIH.out)).trans HIH.out);have HB9 := hd_ (HIB.out.1.trans (hB9.mono HIB.out.1.size));have hz9 : base <= (wr.alloc (.cells #[.int .i64 (i : Nat)] 3)).heap.size := Nat.le_trans HIB.out.2 hB9.size;have hm17 : (m1 : Int) < 17 := (by omega);clear hce hil he hch hco hq hqq htn' hB9 HIH;go_upto_region 16 with (at_builtin; go_must (refine wpList_of_append rfl (.tmp 53) (.tmp 55) 59 59 rfl (run_append_nat _ _ base _ (pf.tbI ls m i) i HT9.out hil2 hz9 wr.heap.size HGN.out) ?_; rintro v9 w9 ⟨ho9, hg9, hv9⟩; obtain ⟨b9, c9, e9, _⟩ := own_form ho9 (by simp); subst e9; obtain ⟨n9, hn9⟩ : ∃ x, (pf.tbI ls m i ++ [i]).length = x := ⟨_, rfl⟩; have HN9 := hd_ hn9; have HOA : Hid (OwnN base w9 (.slice (some ⟨b9, 0, none⟩) n9 c9) (pf.tbI ls m i ++ [i])) := hd_ (by rw [<- hn9]; exact ho9); rw [hn9]; have HGA := hd_ hg9; have hd9 := grown_block hg9 HH9.out (fun e => by have h1 := (World.ownsRow.lt HT9.out g e.symm).1; have h2 := HGB.out.2; omega); have HD9 := hd_ hd9; have c51 := (gRow_cell (j := 51) hd9 (by decide)).trans (show _ = some (Value.slice ta' tn' tc') from rfl); have f51 := frozen_of_row w9 g 51 _ _ hd9; clear ho9 hg9 hv9 hd9 hn9))
      have hk := gRow_store (j := 51) HD9.out (pf.dF (pf.nxF ls m1) (pf.stM ls m1) (pf.cnM ls m i) (.slice (some ⟨b9, 0, none⟩) n9 c9) (pf.dpI ls m i)) (.slice (some ⟨b9, 0, none⟩) n9 c9) rfl (fun j hj hne => by
       unfold pf.dF;by_cases h1 : j < 17
       ·rw [if_pos h1, if_pos h1]
       ·rw [if_neg h1, if_neg h1]
        by_cases h2 : j < 34
        ·rw [if_pos h2, if_pos h2]
        ·rw [if_neg h2, if_neg h2]
         by_cases h3 : j < 51
         ·rw [if_pos h3, if_pos h3]
         ·rw [if_neg h3, if_neg h3, if_neg hne, if_neg hne])
      have hne9 : some g ≠ (Value.slice (some ⟨b9, 0, none⟩) n9 c9).ownBlock := own_ne HOA.out HD9.out (by decide);have HTA := hd_ (World.ownsRow.kept HOA.out (grownBy_setCell3 w9 g 51 (.slice (some ⟨b9, 0, none⟩) n9 c9)) (.inr (Ne.symm hne9)));have hb9 : Below w.heap.size w w9 := HB9.out.grown HGA.out HB9.out.size (fun r e => by have h1 := (World.ownsRow.lt HT9.out r e).1; have h2 := HBA.out.2; omega);have HBA9 := hd_ (hb9.setCell (p := ⟨g, 51, none⟩) HGB.out.1 (.slice (some ⟨b9, 0, none⟩) n9 c9));have HSZ9 : Hid (base <= (w9.setCell ⟨g, 51, none⟩ (.slice (some ⟨b9, 0, none⟩) n9 c9)).heap.size) := hd_ (Nat.le_trans (Nat.le_trans hz9 HGA.out.size) (grownBy_setCell3 w9 g 51 _).size);generalize w9.setCell ⟨g, 51, none⟩ (.slice (some ⟨b9, 0, none⟩) n9 c9) = wa at *;have HKA := hd_ hk;have q1 := gRow_cell (j := 34 + m1) hk (by omega);have hr1 : pf.dF (pf.nxF ls m1) (pf.stM ls m1) (pf.cnM ls m i) (.slice (some ⟨b9, 0, none⟩) n9 c9) (pf.dpI ls m i) (34 + m1) = .int .i64 (q : Nat) := by
       unfold pf.dF;rw [if_neg (by omega), if_neg (by omega), if_pos (by omega), Nat.add_sub_cancel_left, HCN.out]
      rw [hr1] at q1;have f1 := frozen_of_row wa g (34 + m1) _ _ hk;clear c51 f51 t51 hk hr1 hne9 hb9 hz9 HOA HGA HD9 HT9 HH9 HB9 HGN HIT HIB;go_region
      have hk2 := gRow_store (j := 34 + m1) HKA.out (pf.dF (pf.nxF ls m1) (pf.stM ls m1) (pf.cnM ls m (i + 1)) (.slice (some ⟨b9, 0, none⟩) n9 c9) (pf.dpI ls m i)) (.int .i64 (qq : Nat)) (by
        have hm1 := HM1.out;unfold pf.dF;rw [if_neg (by omega), if_neg (by omega), if_pos (by omega), Nat.add_sub_cancel_left];unfold pf.cnM;rw [if_neg (by omega), if_pos hm1.symm, HCH.out]) (fun j hj hne => by
        have hm1 := HM1.out;unfold pf.dF;by_cases h1 : j < 17
        ·rw [if_pos h1, if_pos h1]
        ·rw [if_neg h1, if_neg h1]
         by_cases h2 : j < 34
         ·rw [if_pos h2, if_pos h2]
         ·rw [if_neg h2, if_neg h2]
          by_cases h3 : j < 51
          ·rw [if_pos h3, if_pos h3]
           congr 2
           unfold pf.cnM;by_cases h4 : j - 34 <= m
           ·rw [if_pos h4, if_pos h4]
           ·rw [if_neg h4, if_neg h4, if_neg (by omega), if_neg (by omega)]
          ·rw [if_neg h3, if_neg h3])
      have hgr2 := grownBy_setCell3 wa g (34 + m1) (.int .i64 (qq : Nat));have hne2 : some g ≠ (Value.slice (some ⟨b9, 0, none⟩) n9 c9).ownBlock := own_ne HTA.out HKA.out (by decide);have ht2 := World.ownsRow.kept HTA.out hgr2 (.inr (Ne.symm hne2));have hb2 := HBA9.out.setCell (p := ⟨g, 34 + m1, none⟩) HGB.out.1 (.int .i64 (qq : Nat));have hz2 := Nat.le_trans HSZ9.out hgr2.size;have hdr : Below (wa.setCell ⟨g, 34 + m1, none⟩ (.int .i64 (qq : Nat))).heap.size (wa.setCell ⟨g, 34 + m1, none⟩ (.int .i64 (qq : Nat))) (wa.setCell ⟨g, 34 + m1, none⟩ (.int .i64 (qq : Nat))).drew := Below.drew (Below.refl _ _);have HK2 := hd_ ((hdr.block _ (block_lt hk2)).trans hk2);have HT2 := hd_ (ownsRow_below ht2 hdr);have HB2' := hd_ (hb2.trans (hdr.mono hb2.size));have HZ2 := hd_ (Nat.le_trans hz2 hdr.size);clear hk2 hgr2 hne2 ht2 hb2 hz2 hdr q1 f1 HKA HTA HBA9 HSZ9;generalize (wa.setCell ⟨g, 34 + m1, none⟩ (.int .i64 (qq : Nat))).drew = wb at *;have d52 : ∃ u, wb.cell? ⟨g, 52, none⟩ = some u := ⟨_, gRow_cell (j := 52) HK2.out (by decide)⟩;obtain ⟨u52, d52⟩ := d52;have f52 := frozen_of_row wb g 52 _ _ HK2.out;go_wp2_with fail
      go_roundg (n - (i + 1))
      case measure => have := Hgi.out; omega
      case rel =>
       have hk3 := gRow_store (j := 52) HK2.out (pf.dF (pf.nxF ls m1) (pf.stM ls m1) (pf.cnM ls m (i + 1)) (.slice (some ⟨b9, 0, none⟩) n9 c9) (pf.dpI ls m (i + 1))) (.int .i64 (m1 : Nat)) (by
         have hm1 := HM1.out;unfold pf.dF;rw [if_neg (by decide), if_neg (by decide), if_neg (by decide), if_neg (by decide), HDP.out, hm1]) (fun j hj hne => by
         unfold pf.dF;by_cases h1 : j < 17
         ·rw [if_pos h1, if_pos h1]
         ·rw [if_neg h1, if_neg h1]
          by_cases h2 : j < 34
          ·rw [if_pos h2, if_pos h2]
          ·rw [if_neg h2, if_neg h2]
           by_cases h3 : j < 51
           ·rw [if_pos h3, if_pos h3]
           ·rw [if_neg h3, if_neg h3, if_pos (by omega), if_pos (by omega)])
       have hne3 : some g ≠ (Value.slice (some ⟨b9, 0, none⟩) n9 c9).ownBlock := own_ne HT2.out HK2.out (by decide);have hgr3 := grownBy_setCell3 wb g 52 (.int .i64 (m1 : Nat));have ht3 := World.ownsRow.kept HT2.out hgr3 (.inr (Ne.symm hne3));refine ⟨i + 1, _, by omega, rfl, by go_num, hk3, ?_, HB2'.out.setCell (p := ⟨g, 52, none⟩) HGB.out.1 _, Nat.le_trans HZ2.out hgr3.size⟩;rw [HT.out];exact ht3
     ·have hne : ¬ ((ls.getD i 0 : Nat) : Int) = (m1 : Int) := by omega
      have HSAME : Hid (pf.tbI ls m (i + 1) = pf.tbI ls m i /\ pf.dpI ls m (i + 1) = pf.dpI ls m i /\ pf.cnM ls m (i + 1) = pf.cnM ls m i) := hd_ (by
       have hm1 := HM1.out;refine ⟨pf.tbI_other hil (by omega), pf.dpI_other hil (by omega), ?_⟩
       funext j
       unfold pf.cnM;by_cases h1 : j <= m
       ·rw [if_pos h1, if_pos h1]
       ·rw [if_neg h1, if_neg h1]
        by_cases h2 : j = m + 1
        ·rw [if_pos h2, if_pos h2]
         exact pf.cntF_other hil (by omega)
        ·rw [if_neg h2, if_neg h2])
      obtain ⟨l, hl⟩ : ∃ l, ls.getD i 0 = l := ⟨_, rfl⟩;rw [hl] at k0 hne;clear hce hil he hl;go_wp2_with fail
      go_roundg (n - (i + 1))
      case measure => have := Hgi.out; omega
      case rel => exact ⟨i + 1, tv, by omega, rfl, by go_num, by rw [HSAME.out.2.1, HSAME.out.2.2]; exact HI.out.head, by rw [HSAME.out.1]; exact HI.out.tab, HI.out.below, HI.out.size⟩
    ·obtain rfl : i = n := by omega
     have hcn : pf.cnM ls m i m1 = ls.count m1 := by
      have hm1 := HM1.out;unfold pf.cnM;rw [if_neg (by omega), if_pos hm1.symm, <- HL.out, pf.cntF_all ls (by omega)]
     have hcl : ls.count m1 <= 4096 := Nat.le_trans List.count_le_length (by rw [HL.out]; exact hn);have q1 := gRow_cell (j := 34 + m1) HI.out.head (by have := HM1.out; omega);have hr1 : pf.dF (pf.nxF ls m1) (pf.stM ls m1) (pf.cnM ls m i) tv (pf.dpI ls m i) (34 + m1) = .int .i64 (ls.count m1 : Nat) := by
      have hm1 := HM1.out;unfold pf.dF;rw [if_neg (by omega), if_neg (by omega), if_pos (by omega), Nat.add_sub_cancel_left, hcn]
     rw [hr1] at q1;obtain ⟨y, hy⟩ : ∃ y, ls.count m1 = y := ⟨_, rfl⟩;rw [hy] at q1 hcl HFF;have s3 : IntKind.i64.wrap ((c2 : Int) + (y : Int)) = ((c2 + y : Nat) : Int) := i64o (by omega) (by omega);obtain ⟨c3, hc3⟩ : ∃ c3, c2 + y = c3 := ⟨_, rfl⟩;rw [hc3] at s3 HFF;have hm1 := HM1.out;have hm17 : (m1 : Int) < 17 := (by omega);have HNX := hd_ (NewI.next (m := m) (by rw [HL.out, hm1]; exact HI.out));clear hcn hr1 hy hc3 hm1;go_wp2_with fail
     go_roundg (16 - m1)
     case measure => have := Hg.out; have := HM1.out; omega
     case rel =>
      have hm1 := HM1.out;have hnx := HNX.out;rw [hm1] at hnx;exact ⟨m1, tv, by omega, rfl, by rw [HFF.out], by go_num, hnx⟩
  ·obtain rfl : m = 16 := by omega
   have HD : Hid (Dec w.heap.size wr g ls tv) := hd_ (by
    refine ⟨?_, ?_, HGB.out.1⟩
    ·have e : gRow (pf.dF (pf.first ls) (pf.stF ls) (pf.cntF ls ls.length) tv (pf.deep ls)) 53 = gRow (pf.dF (pf.nxF ls 16) (pf.stM ls 16) (pf.cnM ls 16 0) tv (pf.dpI ls 16 0)) 53 := by
      unfold gRow;refine congrArg List.toArray (List.map_congr_left fun j hj => ?_);have hj := List.mem_range.1 hj;rw [pf.dpI_zero, pf.dpM_all HOK.out.le];unfold pf.dF;by_cases h1 : j < 17
      ·rw [if_pos h1, if_pos h1]
       unfold pf.nxF;rw [if_pos (by omega)]
      ·rw [if_neg h1, if_neg h1]
       by_cases h2 : j < 34
       ·rw [if_pos h2, if_pos h2]
        unfold pf.stM;rw [if_pos (by omega)]
       ·rw [if_neg h2, if_neg h2]
        by_cases h3 : j < 51
        ·rw [if_pos h3, if_pos h3]
         unfold pf.cnM;rw [if_pos (by omega)]
        ·rw [if_neg h3, if_neg h3]
     rw [e];exact HI.out.head
    ·have := HI.out.tab
     rw [pf.tbI_zero] at this;exact World.ownsRow.mono this HBA.out.2)
   go_wp2_with fail
   go_ret2
   exact ⟨g, tv, rfl, HD.out, HI.out.below⟩
end Go.Proofs.YthpckmcgbmfmcaaGreatDoor
