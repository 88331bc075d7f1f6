/- Texts of this claim, joined. -/
import Derived.Test.YthpckmcgbmfmcaaGreatDoorM33
set_option maxRecDepth 100000
set_option maxHeartbeats 12800000
namespace Go.Proofs.YthpckmcgbmfmcaaGreatDoor
open Go.RowKit Go.Sort
namespace rt
def F (f : Nat -> Nat) (of : Nat -> Value) (any : Bool) (j : Nat) : Value := if j < 18 then .int .i64 (f j : Nat) else if j < 36 then of (j - 18) else .bool any
theorem F_zero : (#[.int .i64 0, .int .i64 0, .int .i64 0, .int .i64 0, .int .i64 0, .int .i64 0, .int .i64 0, .int .i64 0, .int .i64 0, .int .i64 0, .int .i64 0, .int .i64 0, .int .i64 0, .int .i64 0, .int .i64 0, .int .i64 0, .int .i64 0, .int .i64 0, .slice none 0 0, .slice none 0 0, .slice none 0 0, .slice none 0 0, .slice none 0 0, .slice none 0 0, .slice none 0 0, .slice none 0 0, .slice none 0 0, .slice none 0 0, .slice none 0 0, .slice none 0 0, .slice none 0 0, .slice none 0 0, .slice none 0 0, .slice none 0 0, .slice none 0 0, .slice none 0 0, .bool false] : Array Value) = gRow (F (fun _ => 0) (fun _ => .slice none 0 0) false) 37 := rfl
theorem size37 (f : Nat -> Nat) (of : Nat -> Value) (any : Bool) : (Tryz.prog.info? 66).map (·.size) = some (gRow (F f of any) 37).size := by
 show _ = some (((List.range 37).map (F f of any)).toArray).size;rw [List.size_toArray, List.length_map, List.length_range]
 kernel_rfl
def fM (ls : List Nat) (m j : Nat) : Nat := if 1 <= j /\ j <= m then pf.first ls j else 0
end rt
structure RtI (base bm : Nat) (w : World) (ls : List Nat) (m i : Nat) (of : Nat -> Value) : Prop where
 old : ∀ k, 1 <= k -> k <= m -> OwnN base w (of k) (pf.idx ls k) /\ ∀ g, (of k).ownBlock = some g -> g < bm
 cur : OwnN bm w (of (m + 1)) (pf.idx (ls.take i) (m + 1))
 rest : ∀ k, (k = 0 \/ m + 1 < k) -> of k = .slice none 0 0
 base : base <= bm
 size : bm <= w.heap.size
theorem own_apart {base : Nat} {w w' : World} {v : Value} {ls : List Nat} (h : OwnN base w v ls) {ob : Option Nat} (hg : w.grownBy w' ob) (hob : ∀ k, ob = some k -> ∃ cur t, w.heap[k]? = some (.cells cur t (0, 0)) /\ t ≠ 3) : OwnN base w' v ls := by
 refine World.ownsRow.kept h hg ?_;cases hv : v.ownBlock with
 | none => exact .inl rfl
 | some k =>
  refine .inr fun e => ?_
  obtain ⟨cur, t, h1, h2⟩ := hob k e.symm;obtain ⟨_, _, cur2, h3⟩ := own_nat h k hv;exact ne_of_types h1 h3 h2 rfl
theorem RtI.grown {base bm : Nat} {w w' : World} {ls : List Nat} {m i : Nat} {of : Nat -> Value} (h : RtI base bm w ls m i of) {ob : Option Nat} (hg : w.grownBy w' ob) (hob : ∀ k, ob = some k -> ∃ cur t, w.heap[k]? = some (.cells cur t (0, 0)) /\ t ≠ 3) : RtI base bm w' ls m i of :=
 ⟨fun k h1 h2 => ⟨own_apart (h.old k h1 h2).1 hg hob, (h.old k h1 h2).2⟩, own_apart h.cur hg hob, h.rest, h.base, Nat.le_trans h.size hg.size⟩
theorem RtI.below {base bm : Nat} {w w' : World} {ls : List Nat} {m i : Nat} {of : Nat -> Value} (h : RtI base bm w ls m i of) (hb : Below w.heap.size w w') : RtI base bm w' ls m i of := h.grown (grown_of_below hb) (fun _ e => by cases e)
theorem RtI.push {base bm : Nat} {w w' : World} {ls : List Nat} {m i : Nat} {of : Nat -> Value} {v' : Value} (h : RtI base bm w ls m i of) (hil : i < ls.length) (he : ls.getD i 0 = m + 1) (hg : w.grownBy w' (of (m + 1)).ownBlock) (ho : OwnN bm w' v' (pf.idx (ls.take i) (m + 1) ++ [i])) : RtI base bm w' ls m (i + 1) (fun k => if k = m + 1 then v' else of k) := by
 have hob := own_nat h.cur;refine ⟨fun k h1 h2 => ?_, ?_, fun k hk => ?_, h.base, Nat.le_trans h.size hg.size⟩
 ·show OwnN base w' (if k = m + 1 then v' else of k) _ /\ ∀ g, (if k = m + 1 then v' else of k).ownBlock = some g -> g < bm
  rw [if_neg (by omega)];refine ⟨World.ownsRow.kept (h.old k h1 h2).1 hg ?_, (h.old k h1 h2).2⟩;cases hv : (of k).ownBlock with
  | none => exact .inl rfl
  | some g =>
   refine .inr fun e => ?_
   have := (hob g e.symm).1;have := (h.old k h1 h2).2 g hv;omega
 ·show OwnN bm w' (if m + 1 = m + 1 then v' else of (m + 1)) _
  rw [if_pos rfl, take_snocN hil, pf.idx_snoc, if_pos he, List.length_take, Nat.min_eq_left (by omega)];exact ho
 ·show (if k = m + 1 then v' else of k) = _
  rw [if_neg (by omega)];exact h.rest k hk
theorem RtI.skip {base bm : Nat} {w : World} {ls : List Nat} {m i : Nat} {of : Nat -> Value} (h : RtI base bm w ls m i of) (hil : i < ls.length) (he : ls.getD i 0 ≠ m + 1) : RtI base bm w ls m (i + 1) of := by
 refine ⟨h.old, ?_, h.rest, h.base, h.size⟩;rw [take_snocN hil, pf.idx_snoc, if_neg he, List.append_nil];exact h.cur
theorem rt.F_of (f : Nat -> Nat) (of : Nat -> Value) (any : Bool) {k : Nat} (v : Value) : ∀ j, j < 37 -> j ≠ 18 + k -> rt.F f (fun z => if z = k then v else of z) any j = rt.F f of any j := by
 intro j hj hne;unfold rt.F;by_cases h1 : j < 18
 ·rw [if_pos h1, if_pos h1]
 ·rw [if_neg h1, if_neg h1]
  by_cases h2 : j < 36
  ·rw [if_pos h2, if_pos h2]
   exact if_neg (by omega)
  ·rw [if_neg h2, if_neg h2]
theorem rt.one {w : World} {base : Nat} (f : Nat -> Nat) (of : Nat -> Value) (any : Bool) {ls : List Nat} (h1 : ∀ k, 1 <= k -> k <= 16 -> OwnN base w (of k) (pf.idx ls k)) (h2 : ∀ k, (k = 0 \/ 16 < k) -> of k = .slice none 0 0) : (gRow (rt.F f of any) 37).all (·.oneCell') = true := by
 rw [Array.all_eq_true];intro j hj;have e : (gRow (rt.F f of any) 37)[j] = rt.F f of any j := by simp [gRow]
 rw [e];unfold rt.F;split
 ·rfl
 ·split
  ·rename_i a b
   by_cases hk : 1 <= j - 18 /\ j - 18 <= 16
   ·obtain ⟨a', c', e', _⟩ := own_slice' (h1 _ hk.1 hk.2)
    rw [e'];rfl
   ·rw [h2 _ (by omega)]
    rfl
  ·rfl
def TabPost (ls : List Nat) (w : World) (e : Ending) (w' : World) : Prop :=
 ∃ of any, e = .returned (.agg (gRow (rt.F (rt.fM ls 16) of any) 37)) /\ (∀ k, 1 <= k -> k <= 16 -> OwnN w.heap.size w' (of k) (pf.idx ls k)) /\ ((∃ l ∈ ls, 1 <= l) -> any = true) /\ Below w.heap.size w w'
theorem rtabled_any (a : Option Addr) (n cap : Nat) (ls : List Nat) (w : World) (h : Sl .i64 w a n cap (nats ls)) (hn : n <= 4096) (hok : pf.Ok ls) :
  Calls Tryz.prog 28 #[.slice a n cap] w (TabPost ls w) := by
 have hl : ls.length = n := by have := h.len; rwa [nats_length] at this
 have HS := hd_ h;have HL := hd_ hl;have HOK := hd_ hok;have hfit := h.fits;clear h hl hok;go_enter Tryz.func28, Tryz.ntmps28
 go_upto_region 2 with (fail)
 rw [rt.F_zero];have B0 := ((Below.refl w.heap.size w).alloc (Nat.le_refl _) (.cells (gRow (rt.F (fun _ => 0) (fun _ => .slice none 0 0) false) 37) 66)).alloc (by simp) (.cells (gRow (rt.F (fun _ => 0) (fun _ => .slice none 0 0) false) 37) 66);obtain ⟨q0, q1⟩ := heap2 w (.cells (gRow (rt.F (fun _ => 0) (fun _ => .slice none 0 0) false) 37) 66) (.cells (gRow (rt.F (fun _ => 0) (fun _ => .slice none 0 0) false) 37) 66);obtain ⟨w2, hw2⟩ : ∃ z, (w.alloc (.cells (gRow (rt.F (fun _ => 0) (fun _ => .slice none 0 0) false) 37) 66)).alloc (.cells (gRow (rt.F (fun _ => 0) (fun _ => .slice none 0 0) false) 37) 66) = z := ⟨_, rfl⟩;obtain ⟨r, hr⟩ : ∃ z, w.heap.size = z := ⟨_, rfl⟩;rw [hw2] at B0 q0 q1 ⊢;rw [hr] at q0 q1 ⊢;obtain ⟨g, hg⟩ : ∃ z, r + 1 = z := ⟨_, rfl⟩;rw [hg] at q1 ⊢;have HB2 := hd_ B0;have HR2 := hd_ q0;have HG2 := hd_ q1;have HRG : Hid (w.heap.size <= r /\ r ≠ g /\ w.heap.size <= g) := hd_ (by omega);clear B0 q0 q1 hw2 hr hg;go_wp2_with fail
 go_loopg [4, 5] 16 (fun gk s4 s5 wr => ∃ (m : Nat) (of : Nat -> Value) (any : Bool), m <= 16 /\ gk = 16 - m /\ s4 = .int .i64 (pf.cdF ls m : Nat) /\ s5 = .int .i64 (m + 1 : Nat) /\ wr.heap[g]? = some (.cells (gRow (rt.F (rt.fM ls m) of any) 37) 66 (0, 0)) /\ wr.heap[r]? = some (.cells (gRow (rt.F (fun _ => 0) (fun _ => .slice none 0 0) false) 37) 66 (0, 0)) /\
  (∀ k, 1 <= k -> k <= m -> OwnN w.heap.size wr (of k) (pf.idx ls k)) /\ (∀ k, (k = 0 \/ m < k) -> of k = .slice none 0 0) /\ ((∃ l ∈ ls, 1 <= l /\ l <= m) -> any = true) /\ Below w.heap.size w wr)
 case atStart =>
  refine ⟨0, fun _ => .slice none 0 0, false, Nat.zero_le _, rfl, rfl, rfl, ?_, HR2.out, fun k h1 h2 => by omega, fun _ _ => rfl, (fun ⟨l, _, h1, h2⟩ => by omega), HB2.out⟩;have e : gRow (rt.F (rt.fM ls 0) (fun _ => .slice none 0 0) false) 37 = gRow (rt.F (fun _ => 0) (fun _ => .slice none 0 0) false) 37 := by
   congr 1
   funext j
   unfold rt.F rt.fM;split
   ·rw [if_neg (by omega)]
   ·rfl
  rw [e];exact HG2.out
 case round =>
  obtain ⟨m, of, any, hm, hgk, rfl, rfl, hg, hr, hold, hrest, hany, hb⟩ := hrel;have Hg := hd_ hgk;have HG := hd_ hg;have HR := hd_ hr;have HANY := hd_ hany;have HB := hd_ hb;have HOLD := hd_ hold;have HREST := hd_ hrest;clear hgk hg hr hany hb hold hrest HR2 HG2 HB2;by_cases hlt : m < 16
  ·have hcd : pf.cdF ls m <= 65536 := by
    unfold pf.cdF;split
    ·omega
    ·have h1 := pf.fits HOK.out (n := m) (by omega) (by omega)
     have h2 : 2 ^ m <= 2 ^ 16 := Nat.pow_le_pow_right (by decide) (by omega);omega
   have hfs := pf.cdF_first ls m;have HFF : Hid (pf.cdF ls (m + 1) = pf.first ls (m + 1) + ls.count (m + 1)) := hd_ (by unfold pf.cdF; rw [if_neg (by omega)]);have hcnt := List.count_le_length (a := m + 1) (l := ls);rw [HL.out] at hcnt;obtain ⟨c, hc⟩ : ∃ c, pf.cdF ls m = c := ⟨_, rfl⟩;rw [hc] at hcd hfs ⊢;obtain ⟨c2, hc2⟩ : ∃ c2, pf.first ls (m + 1) = c2 := ⟨_, rfl⟩;rw [hc2] at hfs HFF;have s2 : IntKind.i64.wrap (2 * (c : Int)) = (c2 : Int) := i64o (by omega) (by omega);have s2' : IntKind.i64.wrap ((c : Int) * 2) = (c2 : Int) := i64o (by omega) (by omega);have hc2b : c2 <= 131072 := (by omega);obtain ⟨m1, hm1⟩ : ∃ m1, m + 1 = m1 := ⟨_, rfl⟩;have hm16 : decide ((m1 : Int) <= 16) = true := (by simp; omega);have hm16' : (m1 : Int) <= 16 := (by omega);have hm18 : (m1 : Int) < 18 := (by omega);have hm18' : ¬ m1 = 18 := (by omega);have hm1b : 1 <= m1 /\ m1 <= 16 := (by omega);have HM1 := hd_ hm1;have HC2 := hd_ hc2;rw [hm1] at HFF hcnt;rw [hm1];have q1 := gRow_cell (j := m1) HG.out (by omega);have hr1 : rt.F (rt.fM ls m) of any m1 = .int .i64 (rt.fM ls m m1 : Nat) := (by unfold rt.F; rw [if_pos (by omega)]);rw [hr1] at q1;have fr1 := frozen_of_row wr g m1 _ _ HG.out;have hd1 := gRow_store (j := m1) HG.out (rt.F (rt.fM ls m1) of any) (.int .i64 (c2 : Nat)) (by unfold rt.F rt.fM; rw [if_pos (by omega), if_pos (by omega), <- hm1, hc2]) (fun j hj hne => by
    unfold rt.F rt.fM;by_cases h1 : j < 18
    ·rw [if_pos h1, if_pos h1]
     by_cases h2 : 1 <= j /\ j <= m
     ·rw [if_pos h2, if_pos (by omega)]
     ·rw [if_neg h2, if_neg (by omega)]
    ·rw [if_neg h1, if_neg h1])
   have hgs := grownBy_setCell3 wr g m1 (.int .i64 (c2 : Nat));have hobg : ∀ k, some g = some k -> ∃ cur t, wr.heap[k]? = some (.cells cur t (0, 0)) /\ t ≠ 3 := fun k e => by
    obtain rfl := Option.some.inj e;exact ⟨_, _, HG.out, by decide⟩
   have HG3 := hd_ hd1;have HR3 := hd_ (grown_block hgs HR.out (fun e => HRG.out.2.1 (Option.some.inj e)));have HB3 := hd_ (HB.out.setCell (p := ⟨g, m1, none⟩) HRG.out.2.2 (.int .i64 (c2 : Nat)));have hI3 : RtI w.heap.size (wr.setCell ⟨g, m1, none⟩ (.int .i64 (c2 : Nat))).heap.size (wr.setCell ⟨g, m1, none⟩ (.int .i64 (c2 : Nat))) ls m 0 of :=
    ⟨fun k h1 h2 => ⟨own_apart (HOLD.out k h1 h2) hgs hobg, fun z hz => (own_nat (own_apart (HOLD.out k h1 h2) hgs hobg) z hz).2.1⟩, by rw [HREST.out _ (.inr (Nat.lt_succ_self m))]; exact World.ownsRow_nil _ _ _ _, fun k hk => HREST.out k (by omega), HB3.out.size, Nat.le_refl _⟩
   have HI3 := hd_ hI3;clear hc hc2 hm1 hfs hr1 hd1 hgs hobg hI3;go_upto_region 8 with (fail)
   clear q1 fr1;obtain ⟨bm, hbm⟩ : ∃ z, (wr.setCell ⟨g, m1, none⟩ (.int .i64 (c2 : Nat))).heap.size = z := ⟨_, rfl⟩;rw [hbm] at HI3;generalize wr.setCell ⟨g, m1, none⟩ (.int .i64 (c2 : Nat)) = w3 at *;clear hbm;go_wp2_with fail
   go_loopg [6] n (fun gk s6 wr => ∃ (i : Nat) (of' : Nat -> Value) (any' : Bool), i <= n /\ gk = n - i /\ s6 = .int .i64 (i : Nat) /\ wr.heap[g]? = some (.cells (gRow (rt.F (rt.fM ls m1) of' any') 37) 66 (0, 0)) /\ wr.heap[r]? = some (.cells (gRow (rt.F (fun _ => 0) (fun _ => .slice none 0 0) false) 37) 66 (0, 0)) /\
    RtI w.heap.size bm wr ls m i of' /\ (any = true -> any' = true) /\ (m1 ∈ ls.take i -> any' = true) /\ Below w.heap.size w wr)
   case atStart => exact ⟨0, of, any, Nat.zero_le _, rfl, by go_num, HG3.out, HR3.out, HI3.out, id, (fun h => by simp at h), HB3.out⟩
   case round =>
    obtain ⟨i, of', any', hi, hgk, rfl, hg, hr, hI, ha1, ha2, hb⟩ := hrel;have Hgi := hd_ hgk;have HGr := hd_ hg;have HRr := hd_ hr;have HI := hd_ hI;have HA := hd_ (And.intro ha1 ha2);have HBr := hd_ hb;clear hgk hg hr hI ha1 ha2 hb HG3 HR3 HB3 HI3;by_cases hin : i < n
    ·obtain ⟨b, off, rfl, hce⟩ := (HS.out.below HBr.out).cells (by omega)
     have k0 := hce i hin;rw [nats_get] at k0;have hil : i < ls.length := (by rw [HL.out]; exact hin);have hi1 : (i : Int) < (n : Int) := (by omega);have hic : ¬ cap = i := (by omega);have HTK := hd_ (take_snocN hil);by_cases he : ls.getD i 0 = m1
     ·have hcur := HI.out.cur
      rw [HM1.out] at hcur;have hlen : (pf.idx (ls.take i) m1).length <= 4096 := by
       rw [pf.idx_length];have := List.count_le_length (a := m1) (l := ls.take i);rw [List.length_take] at this;omega
      obtain ⟨un, hun⟩ : ∃ z, (pf.idx (ls.take i) m1).length = z := ⟨_, rfl⟩;obtain ⟨ua, uc, euv⟩ : ∃ a c, of' m1 = .slice a un c := by
       obtain ⟨a', c', e', _⟩ := own_slice' hcur;exact ⟨a', c', by rw [<- hun]; exact e'⟩
      have q2 := gRow_cell (j := 18 + m1) HGr.out (by omega);have hr2 : rt.F (rt.fM ls m1) of' any' (18 + m1) = .slice ua un uc := (by unfold rt.F; rw [if_neg (by omega), if_pos (by omega), Nat.add_sub_cancel_left]; exact euv);rw [hr2] at q2;have hba : Below wr.heap.size wr (wr.alloc (.cells #[.int .i64 (i : Nat)] 3)) := (Below.refl _ _).alloc (Nat.le_refl _) _;have HN4 := hd_ (heap_alloc_new wr (.cells #[.int .i64 (i : Nat)] 3 (0, 0)));have HI4 := hd_ (HI.out.below hba);have HG4 := hd_ ((hba.block _ (block_lt HGr.out)).trans HGr.out);have HR4 := hd_ ((hba.block _ (block_lt HRr.out)).trans HRr.out);have HB4 := hd_ (HBr.out.trans (hba.mono HBr.out.size));have HC4 : Hid (OwnN bm (wr.alloc (.cells #[.int .i64 (i : Nat)] 3)) (.slice ua un uc) (pf.idx (ls.take i) m1)) := hd_ (by rw [<- euv]; exact hcur.below hba);have HEU := hd_ euv;have HLN : Hid ((pf.idx (ls.take i) m1).length <= 1099511627776) := hd_ (by omega);have HHE := hd_ he;have HIL := hd_ hil;rw [he] at k0;clear hcur hlen hun euv hr2 hba hce he hil;go_upto_region 13 with (at_builtin; go_must (refine wpList_of_append rfl (.tmp 33) (.tmp 35) 59 59 rfl (run_append_nat _ _ bm (.slice ua un uc) (pf.idx (ls.take i) m1) i HC4.out HLN.out HI4.out.size _ HN4.out) ?_; rintro v9 w9 ⟨ho9, hg9, _⟩; have hobn := own_nat HC4.out; have hd9 := grown_block hg9 HG4.out (fun e => by obtain ⟨_, _, cur2, h3⟩ := hobn g e.symm; exact ne_of_types HG4.out h3 (by decide) rfl); have hrr9 := grown_block hg9 HR4.out (fun e => by obtain ⟨_, _, cur2, h3⟩ := hobn r e.symm; exact ne_of_types HR4.out h3 (by decide) rfl); have HO9 := hd_ ho9; have HG9 := hd_ hg9; have HD9 := hd_ hd9; have HRR9 := hd_ hrr9; obtain ⟨b9, c9, e9, _⟩ := own_form ho9 (by simp); subst e9; have cq := gRow_cell (j := 18 + m1) hd9 (by omega); have hr3 : rt.F (rt.fM ls m1) of' any' (18 + m1) = .slice ua un uc := (by unfold rt.F; rw [if_neg (by omega), if_pos (by omega), Nat.add_sub_cancel_left]; exact HEU.out); rw [hr3] at cq; have fq := frozen_of_row w9 g (18 + m1) _ _ hd9; obtain ⟨n9, hn9⟩ : ∃ z, (pf.idx (ls.take i) m1 ++ [i]).length = z := ⟨_, rfl⟩; rw [hn9]; have HN9 := hd_ hn9; clear ho9 hg9 hd9 hrr9 hr3 hn9 hobn))
      have hst := gRow_store (j := 18 + m1) HD9.out (rt.F (rt.fM ls m1) (fun z => if z = m1 then .slice (some ⟨b9, 0, none⟩) n9 c9 else of' z) any') (.slice (some ⟨b9, 0, none⟩) n9 c9) (by unfold rt.F; rw [if_neg (by omega), if_pos (by omega), Nat.add_sub_cancel_left]; exact if_pos rfl) (rt.F_of _ _ _ _);have hg10 := grownBy_setCell3 w9 g (18 + m1) (.slice (some ⟨b9, 0, none⟩) n9 c9);have hobg : ∀ k, some g = some k -> ∃ cur t, w9.heap[k]? = some (.cells cur t (0, 0)) /\ t ≠ 3 := fun k e => by
       obtain rfl := Option.some.inj e;exact ⟨_, _, HD9.out, by decide⟩
      have hgx := HG9.out;rw [<- HEU.out] at hgx;have hIx := HI4.out.push HIL.out (HHE.out.trans HM1.out.symm) (by rw [HM1.out]; exact hgx) (v' := .slice (some ⟨b9, 0, none⟩) n9 c9) (by
       have h1 := HO9.out;rw [HN9.out] at h1;rw [HM1.out];exact h1)
      rw [HM1.out] at hIx;have hIy := hIx.grown hg10 hobg;have hb9 : Below w.heap.size w w9 := HB4.out.grown HG9.out HB4.out.size (fun k e => Nat.le_trans HI4.out.base (own_nat HC4.out k e).1);have HRR10 := hd_ (grown_block hg10 HRR9.out (fun e => HRG.out.2.1 (Option.some.inj e)));have HB10 := hd_ (hb9.setCell (p := ⟨g, 18 + m1, none⟩) HRG.out.2.2 (.slice (some ⟨b9, 0, none⟩) n9 c9));have HST := hd_ hst;have HIY := hd_ hIy;clear cq fq q2 hst hg10 hobg hgx hIx hIy hb9;generalize w9.setCell ⟨g, 18 + m1, none⟩ (.slice (some ⟨b9, 0, none⟩) n9 c9) = wa at *;have ca := gRow_cell (j := 36) HST.out (by decide);have ca' : wa.cell? ⟨g, 36, none⟩ = some (.bool any') := ca;have fa := frozen_of_row wa g 36 _ _ HST.out;have hst2 := gRow_store (j := 36) HST.out (rt.F (rt.fM ls m1) (fun z => if z = m1 then .slice (some ⟨b9, 0, none⟩) n9 c9 else of' z) true) (.bool true) (by unfold rt.F; rw [if_neg (by decide), if_neg (by decide)]) (fun j hj hne => by
       unfold rt.F;by_cases h1 : j < 18
       ·rw [if_pos h1, if_pos h1]
       ·rw [if_neg h1, if_neg h1, if_pos (by omega), if_pos (by omega)])
      have hg11 := grownBy_setCell3 wa g 36 (.bool true);have HST2 := hd_ hst2;have HRR11 := hd_ (grown_block hg11 HRR10.out (fun e => HRG.out.2.1 (Option.some.inj e)));have HIZ := hd_ (HIY.out.grown hg11 (fun k e => by obtain rfl := Option.some.inj e; exact ⟨_, _, HST.out, by decide⟩));have HB11 := hd_ (HB10.out.setCell (p := ⟨g, 36, none⟩) HRG.out.2.2 (.bool true));clear ca hst2 hg11;go_wp2_with fail
      go_roundg (n - (i + 1))
      case measure => have := Hgi.out; omega
      case rel => exact ⟨i + 1, _, true, by omega, rfl, by go_num, HST2.out, HRR11.out, HIZ.out, (fun _ => rfl), (fun _ => rfl), HB11.out⟩
     ·have HNE := hd_ he
      have HSK := hd_ (HI.out.skip hil (by rw [HM1.out]; exact he));obtain ⟨l, hl⟩ : ∃ z, ls.getD i 0 = z := ⟨_, rfl⟩;rw [hl] at k0 he;have hne : ((l : Int) == (m1 : Int)) = false := (by simp; omega);clear hce hl he;go_wp2_with fail
      go_roundg (n - (i + 1))
      case measure => have := Hgi.out; omega
      case rel =>
       refine ⟨i + 1, of', any', by omega, rfl, by go_num, HGr.out, HRr.out, HSK.out, HA.out.1, (fun h => ?_), HBr.out⟩;rw [HTK.out] at h;rcases List.mem_append.1 h with h1 | h1
       ·exact HA.out.2 h1
       ·exact absurd (List.mem_singleton.1 h1).symm HNE.out
    ·obtain rfl : i = n := by omega
     have htk : ls.take i = ls := List.take_of_length_le (Nat.le_of_eq HL.out);have hcur := HI.out.cur;rw [HM1.out, htk] at hcur;obtain ⟨ua, uc, euv⟩ : ∃ a c, of' m1 = .slice a (ls.count m1) c := by
      obtain ⟨a', c', e', _⟩ := own_slice' hcur;exact ⟨a', c', by rw [<- pf.idx_length]; exact e'⟩
     have q2 := gRow_cell (j := 18 + m1) HGr.out (by omega);have hr2 : rt.F (rt.fM ls m1) of' any' (18 + m1) = .slice ua (ls.count m1) uc := (by unfold rt.F; rw [if_neg (by omega), if_pos (by omega), Nat.add_sub_cancel_left]; exact euv);rw [hr2] at q2;have HCU := hd_ hcur;obtain ⟨cm, hcm⟩ : ∃ z, ls.count m1 = z := ⟨_, rfl⟩;rw [hcm] at q2 hcnt HFF;have w1 : IntKind.i64.wrap ((c2 : Int) + (cm : Int)) = ((c2 + cm : Nat) : Int) := i64o (by omega) (by omega);have w2' : IntKind.i64.wrap ((m1 : Int) + 1) = ((m1 + 1 : Nat) : Int) := i64o (by omega) (by omega);have HTK := hd_ htk;clear hcur hr2 euv hcm htk;go_wp2_with fail
     go_roundg (16 - m1)
     case measure => have := Hg.out; have := HM1.out; omega
     case rel =>
      refine ⟨m1, of', any', hm1b.2, rfl, ?_, by go_num, HGr.out, HRr.out, fun k h1 h2 => ?_, fun k hk => HI.out.rest k (by have := HM1.out; omega), ?_, HBr.out⟩
      ·rw [HFF.out]
       go_num
      ·rcases Nat.lt_or_ge k m1 with h3 | h3
       ·exact (HI.out.old k h1 (by have := HM1.out; omega)).1
       ·obtain rfl : k = m1 := by omega
        exact World.ownsRow.mono HCU.out HI.out.base
      ·rintro ⟨l, hl, h1, h2⟩
       rcases Nat.lt_or_ge l m1 with h3 | h3
       ·exact HA.out.1 (HANY.out ⟨l, hl, h1, by have := HM1.out; omega⟩)
       ·obtain rfl : l = m1 := by omega
        exact HA.out.2 (by rw [HTK.out]; exact hl)
  ·obtain rfl : m = 16 := by omega
   clear Hg hlt;have hsz := rt.size37 (rt.fM ls 16) of any;have HSZ := hd_ hsz;have HONE := hd_ (rt.one (rt.fM ls 16) of any HOLD.out HREST.out);have HS2 : Hid ((gRow (rt.F (fun _ => 0) (fun _ => .slice none 0 0) false) 37).size = (gRow (rt.F (rt.fM ls 16) of any) 37).size) := hd_ (by unfold gRow; simp);clear hsz;go_wp2_with (first
    | (with_reducible refine wpList_load_row rfl 66 _ rfl g rfl 66 (gRow (rt.F (rt.fM ls 16) of any) 37) (0, 0) _ HG.out Tryz.underlying66 rfl HSZ.out ?_)
    | (with_reducible refine wpList_store_row rfl 66 _ _ rfl r _ rfl rfl 66 _ HR.out HSZ.out HS2.out HONE.out ?_))
   go_wp2_with fail
   have hgr := grownBy_setRow wr r (gRow (rt.F (rt.fM ls 16) of any) 37);refine bodyPost_ret (results_cell_row (p := 2) (ty := 66) rfl _ _ r 66 _ (0, 0) _ rfl (setRow_heap _ _ _ _ _ _ HR.out) Tryz.underlying66 rfl HSZ.out) rfl ?_;refine ⟨of, any, rfl, fun k h1 h2 => own_apart (HOLD.out k h1 h2) hgr (fun z e => by obtain rfl := Option.some.inj e; exact ⟨_, _, HR.out, by decide⟩), (fun ⟨l, hl, h1⟩ => HANY.out ⟨l, hl, h1, HOK.out.le l hl⟩), below_setRow HB.out HRG.out.1 _⟩
end Go.Proofs.YthpckmcgbmfmcaaGreatDoor
