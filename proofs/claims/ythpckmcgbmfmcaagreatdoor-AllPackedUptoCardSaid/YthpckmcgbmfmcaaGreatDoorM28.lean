/- Texts of this claim, joined. -/
import Derived.Test.YthpckmcgbmfmcaaGreatDoorM27
set_option maxRecDepth 100000
set_option maxHeartbeats 12800000
namespace Go.Proofs.YthpckmcgbmfmcaaGreatDoor
namespace pm
theorem sum_wide (U : List Nat) (f : Nat -> Nat) (K : Nat) : (U.map fun s => wide K (f s)).sum + (U.map fun s => 2 ^ (K - f s)).sum = U.length * 2 ^ K := by
 induction U with
 | nil => simp
 | cons a r ih =>
  have : 2 ^ (K - f a) <= 2 ^ K := Nat.pow_le_pow_right (by decide) (by omega);simp only [List.map_cons, List.sum_cons, List.length_cons, Nat.add_mul, Nat.one_mul];unfold wide at ih ⊢;omega
theorem full {wt : Nat -> Nat} {U : List Nat} (hn : U.Nodup) (hw : ∀ i ∈ U, 0 < wt i) {k : Nat} {R : List Coin} (h : Rows (own wt U) k R) (hk : k + 1 <= 16) {C N : List Coin} (hp : R.Perm (C ++ N)) (hd : Dom C N) (hl : C.length + 2 = 2 * U.length) (h2 : 2 <= U.length) :
  (∀ s ∈ U, 1 <= cnt C s) /\ (U.map fun s => 2 ^ (16 - cnt C s)).sum = 65536 := by
 have e := (chosen hn hw h hp hd).2 16 hk;have e2 := sum_wide U (fun s => cnt C s) 16;have e3 : (U.map fun s => 2 ^ (16 - cnt C s)).sum = 65536 := by
  have : (2 : Nat) ^ 16 = 65536 := by decide
  rw [this] at e e2;omega
 refine ⟨fun s hs => ?_, e3⟩;rcases Nat.eq_zero_or_pos (cnt C s) with h0 | h0
 ·exfalso
  obtain ⟨u, v, huv⟩ := List.append_of_mem hs;rw [huv] at e3 h2;simp only [List.map_append, List.map_cons, List.sum_append, List.sum_cons, h0, List.length_append, List.length_cons] at e3 h2;have : (2 : Nat) ^ 16 = 65536 := by decide
  rw [Nat.sub_zero, this] at e3;have hz : ∀ l : List Nat, 0 < l.length -> 0 < (l.map fun s => 2 ^ (16 - cnt C s)).sum := by
   intro l hl
   match l, hl with
   | a :: r, _ =>
    have := Nat.two_pow_pos (16 - cnt C a);simp only [List.map_cons, List.sum_cons];omega
  rcases Nat.eq_zero_or_pos u.length with h | h
  ·have := hz v (by omega)
   omega
  ·have := hz u h
   omega
 ·exact h0
theorem sum_filter (p : Nat -> Bool) (f : Nat -> Nat) : ∀ l : List Nat, (∀ s ∈ l, p s = false -> f s = 0) -> (l.map f).sum = ((l.filter p).map f).sum
 | [], _ => rfl
 | a :: r, h => by
  have ih := sum_filter p f r fun s hs => h s (List.mem_cons_of_mem _ hs)
  cases hp : p a with
  | true => rw [List.filter_cons_of_pos hp]; simp [ih]
  | false => rw [List.filter_cons_of_neg (by rw [hp]; decide)]; simp [ih, h a List.mem_cons_self hp]
theorem list_of {ls : List Nat} {m : Nat} (hl : ls.length = m) : ls = (List.range m).map fun s => ls.getD s 0 := by
 apply List.ext_getElem
 ·simp [hl]
 ·intro i h1 h2
  simp [List.getD_eq_getElem?_getD, List.getElem?_eq_getElem h1]
theorem lengths {wt : Nat -> Nat} {m : Nat} {p : Nat -> Bool} (hw : ∀ i ∈ (List.range m).filter p, 0 < wt i) {k : Nat} {R : List Coin} (h : Rows (own wt ((List.range m).filter p)) k R) (hk : k + 1 <= 16) {C N : List Coin} (hp : R.Perm (C ++ N)) (hd : Dom C N)
  (hl : C.length + 2 = 2 * ((List.range m).filter p).length) (h2 : 2 <= ((List.range m).filter p).length) {ls : List Nat} (hm : ls.length = m) (hls : ∀ s, s < m -> ls.getD s 0 = cnt C s) :
  pf.kraft ls = 65536 /\ (∀ l ∈ ls, l <= k + 1) /\ ∀ s, s < m -> p s = true -> 1 <= ls.getD s 0 := by
 have hn : ((List.range m).filter p).Nodup := List.nodup_range.filter _;obtain ⟨f1, f2⟩ := full hn hw h hk hp hd hl h2;have hle := (chosen hn hw h hp hd).1;have hsup : ∀ s, p s = false -> cnt C s = 0 := by
  intro s hs;rcases Nat.eq_zero_or_pos (cnt C s) with h0 | h0
  ·exact h0
  ·obtain ⟨c, hc, hcs⟩ := List.mem_flatMap.1 (List.count_pos_iff.1 h0)
   have := (heavy h c (hp.symm.subset (List.mem_append_left _ hc)) s hcs).2;rw [(List.mem_filter.1 this).2] at hs;cases hs
 refine ⟨?_, fun l hl => ?_, fun s hs hp => ?_⟩
 ·unfold pf.kraft
  rw [list_of hm, List.map_map, sum_filter p, <- f2]
  ·congr 1
   refine List.map_congr_left fun s hs => ?_
   have h1 := f1 s hs;have h2 := hls s (List.mem_range.1 (List.mem_filter.1 hs).1);show pf.part (ls.getD s 0) = _;unfold pf.part;rw [h2, if_neg (by omega)]
  ·intro s hs hps
   show pf.part (ls.getD s 0) = 0;rw [hls s (List.mem_range.1 hs), hsup s hps];rfl
 ·obtain ⟨s, hs, rfl⟩ := List.mem_iff_getElem.1 hl
  have := hls s (by omega);rw [List.getD_eq_getElem?_getD, List.getElem?_eq_getElem hs] at this;have h3 := hle s;simp only [Option.getD_some] at this;omega
 ·rw [hls s hs]
  exact f1 s (List.mem_filter.2 ⟨List.mem_range.2 hs, hp⟩)
end pm
end Go.Proofs.YthpckmcgbmfmcaaGreatDoor
namespace Go.Proofs.YthpckmcgbmfmcaaGreatDoor
open Go.RowKit Go.Sort
theorem odd_any (x : Nat) (w : World) (h : x <= 1073741824) : Calls Tryz.prog 138 #[.int .i64 x] w fun e w' => e = .returned (.bool false) /\ w = w' := by
 have h1 : ¬ 1073741824 < (x : Int) := by omega
 have h2 : ¬ 1073741824 < x := by omega
 clear h;go_enter Tryz.func138, Tryz.ntmps138
 go_wp2_with fail
 go_ret
 exact ⟨rfl, rfl⟩
theorem index_any (a : Option Addr) (n cap : Nat) (ls : List Nat) (w : World) (h : Sl .i64 w a n cap (nats ls)) (hle : ∀ x ∈ ls, x <= 1073741824) :
  Calls Tryz.prog 156 #[.slice a n cap, .func (.func 138) #[] #[]] w fun e w' => e = .returned (.int .i64 (-1)) /\ w = w' := by
 have hl : ls.length = n := by have := h.len; rwa [nats_length] at this
 have HS := hd_ h;have HLE := hd_ hle;have HL := hd_ hl;have hmost : n <= maxLen := Nat.le_trans h.fits h.most;clear h hle hl;go_enter Tryz.func156, Tryz.ntmps156
 go_wp2_with fail
 go_loopg [8] n (fun gk s8 wr => ∃ i : Nat, i <= n /\ gk = n - i /\ s8 = .int .i64 (i : Nat) /\ wr = w)
 case atStart => exact ⟨0, Nat.zero_le _, rfl, by go_num, rfl⟩
 case round =>
  obtain ⟨i, hi, hg, rfl, rfl⟩ := hrel;have Hg := hd_ hg;clear hg;unfold maxLen at hmost;by_cases hlt : i < n
  ·obtain ⟨bb, bo, rfl, hcl⟩ := HS.out.cells (by omega)
   have c0 := hcl i hlt;rw [nats_get] at c0;have KO := hd_ (odd_any (ls.getD i 0) wr (HLE.out _ (by rw [List.getD_eq_getElem?_getD, List.getElem?_eq_getElem (by rw [HL.out]; exact hlt)]; exact List.getElem_mem _)));obtain ⟨y, hy⟩ : ∃ y, ls.getD i 0 = y := ⟨_, rfl⟩;rw [hy] at c0 KO;have hin : (i : Int) < (n : Int) := (by omega);clear hcl hy;go_wp2_with fail
   refine KO.out.mono ?_;rintro e w2 ⟨rfl, rfl⟩;go_wp2_with fail
   go_roundg (n - (i + 1))
   case measure => have := Hg.out; omega
   case rel => exact ⟨i + 1, by omega, rfl, by go_num, rfl⟩
  ·obtain rfl : i = n := by omega
   go_wp2_with fail
   go_ret
   exact ⟨rfl, rfl⟩
theorem contains_any (a : Option Addr) (n cap : Nat) (ls : List Nat) (w : World) (h : Sl .i64 w a n cap (nats ls)) (hle : ∀ x ∈ ls, x <= 1073741824) :
  Calls Tryz.prog 137 #[.slice a n cap, .func (.func 138) #[] #[]] w fun e w' => e = .returned (.bool false) /\ w = w' := by
 have KI := hd_ (index_any a n cap ls w h hle);clear h hle;go_enter Tryz.func137, Tryz.ntmps137
 go_wp2_with fail
 refine KI.out.mono ?_;rintro e w2 ⟨rfl, rfl⟩;go_wp2_with fail
 go_ret
 exact ⟨rfl, rfl⟩
theorem df.fixL_get : ∀ i, i < 288 -> df.fixL.getD i 0 = if i < 144 \/ 279 < i then 8 else if i < 256 then 9 else 7 := by
 have h : (List.range 288).all (fun i => df.fixL.getD i 0 == if i < 144 \/ 279 < i then 8 else if i < 256 then 9 else 7) = true := by decide +kernel
 intro i hi;have := List.all_eq_true.1 h i (List.mem_range.2 hi);exact of_decide_eq_true (by simpa using this)
theorem df.fixD_get : ∀ i, i < 30 -> df.fixD.getD i 0 = 5 := by decide +kernel
theorem df.fixL_le : ∀ x ∈ df.fixL, x <= 9 := by
 have h : df.fixL.all (fun x => decide (x <= 9)) = true := by decide +kernel
 intro x hx;exact of_decide_eq_true (List.all_eq_true.1 h x hx)
theorem df.fixL_kraft : pf.kraft df.fixL = 65536 := by decide +kernel
theorem df.fixD_kraft : pf.kraft df.fixD = 61440 := by decide +kernel
theorem df.fixL_ok : pf.Ok df.fixL := ⟨fun x hx => Nat.le_trans (df.fixL_le x hx) (by decide), Nat.le_of_eq df.fixL_kraft⟩
theorem df.fixD_ok : pf.Ok df.fixD := ⟨fun x hx => by rw [List.eq_of_mem_replicate hx]; decide, by rw [df.fixD_kraft]; decide⟩
theorem fRow_sl {w : World} {g : Nat} {ls : List Nat} {f : Nat -> Nat} {c : Nat} {t : TypeId} (h : w.heap[g]? = some (.cells (fRow .i64 f c) t (0, 0))) (hl : ls.length = c) (hf : ∀ i, i < c -> f i = ls.getD i 0) (hc : c <= 16777216) (hle : ∀ x ∈ ls, x <= 1099511627776) : Sl .i64 w (some ⟨g, 0, none⟩) c c (nats ls) := by
 refine ⟨by rw [nats_length]; exact hl, Nat.le_refl _, by unfold maxLen; omega, (fun e => by cases e), nats_wf _ hle, .inr ⟨g, 0, rfl, fun i hi => ?_⟩⟩;rw [nats_length] at hi;rw [Nat.zero_add, fRow_cell h (by omega), hf i (by omega), nats_get]
def df.DecsPost (L D : List Nat) (w : World) (e : Ending) (w' : World) : Prop :=
 ∃ g1 g2 t1 t2, e = .returned (.tuple #[.pointer (some ⟨g1, 0, none⟩), .pointer (some ⟨g2, 0, none⟩)]) /\ Dec w.heap.size w' g1 L t1 /\ Dec w.heap.size w' g2 D t2 /\ Below w.heap.size w w'
theorem Dec.below6 {base : Nat} {w w' : World} {g : Nat} {ls : List Nat} {tv : Value} (h : Dec base w g ls tv) (hb : Below w.heap.size w w') : Dec base w' g ls tv := ⟨(hb.block _ (block_lt h.head)).trans h.head, h.tab.below hb, h.lies⟩
theorem Dec.base {base base' : Nat} {w : World} {g : Nat} {ls : List Nat} {tv : Value} (h : Dec base w g ls tv) (hb : base' <= base) : Dec base' w g ls tv :=
 ⟨h.head, World.ownsRow.mono h.tab hb, Nat.le_trans hb h.lies⟩
theorem ifixed_any (w : World) : Calls Tryz.prog 64 #[] w (df.DecsPost df.fixL df.fixD w) := by
 have m1 : ∀ w, (Instr.makeSlice 59 (.int .i64 288) (.int .i64 288)).run Tryz.prog w = .ok (.slice (some ⟨w.heap.size, 0, none⟩) 288 288) (w.alloc (.cells (fRow .i64 (fun _ => 0) 288) 3)) := make_i64 288 (by decide);have m2 : ∀ w, (Instr.makeSlice 59 (.int .i64 30) (.int .i64 30)).run Tryz.prog w = .ok (.slice (some ⟨w.heap.size, 0, none⟩) 30 30) (w.alloc (.cells (fRow .i64 (fun _ => 0) 30) 3)) := make_i64 30 (by decide);have KN := hd_ new_any;go_enter Tryz.func64, Tryz.ntmps64
 go_upto_region 1 with (fail)
 go_cut [2, 3] from 10 to 57 (fun s2 s3 wx => ∃ a b, a ≠ b /\ s2 = .slice (some ⟨a, 0, none⟩) 288 288 /\ s3 = .slice (some ⟨b, 0, none⟩) 30 30 /\ w.heap.size <= a /\ w.heap.size <= b /\ wx.heap[a]? = some (.cells (fRow .i64 (fun _ => 0) 288) 3 (0, 0)) /\ wx.heap[b]? = some (.cells (fRow .i64 (fun _ => 0) 30) 3 (0, 0)) /\ Below w.heap.size w wx)
 case first =>
  go_region
  all_goals go_wp2_with fail
  all_goals go_meet
  ·obtain ⟨q0, q1⟩ := heap2 w (.cells (fRow .i64 (fun _ => 0) 288) 3) (.cells (fRow .i64 (fun _ => 0) 30) 3)
   exact ⟨w.heap.size, w.heap.size + 1, by omega, rfl, rfl, Nat.le_refl _, Nat.le_succ _, q0, q1, Below.drew (((Below.refl w.heap.size w).alloc (Nat.le_refl _) _).alloc (by simp) _)⟩
  ·obtain ⟨q0, q1⟩ := heap2 w (.cells (fRow .i64 (fun _ => 0) 30) 3) (.cells (fRow .i64 (fun _ => 0) 288) 3)
   exact ⟨w.heap.size + 1, w.heap.size, by omega, rfl, rfl, Nat.le_succ _, Nat.le_refl _, q1, q0, Below.drew (((Below.refl w.heap.size w).alloc (Nat.le_refl _) _).alloc (by simp) _)⟩
 case rest =>
  obtain ⟨a, b, hne, rfl, rfl, ha, hb, hqa, hqb, hbw⟩ := hcut;have HA := hd_ hqa;have HB := hd_ hqb;have HBW := hd_ hbw;have HNE := hd_ hne;have HAB := hd_ (And.intro ha hb);clear hne ha hb hqa hqb hbw m1 m2;go_wp2_with fail
  go_loopg [14] 288 (fun gk s14 wr => ∃ i : Nat, i <= 288 /\ gk = 288 - i /\ s14 = .int .i64 (i : Nat) /\ wr.heap[a]? = some (.cells (fRow .i64 (fun j => if j < i then df.fixL.getD j 0 else 0) 288) 3 (0, 0)) /\ wr.heap[b]? = some (.cells (fRow .i64 (fun _ => 0) 30) 3 (0, 0)) /\ Below w.heap.size w wr)
  case atStart => exact ⟨0, Nat.zero_le _, rfl, by go_num, by simpa using HA.out, HB.out, HBW.out⟩
  case round =>
   obtain ⟨i, hi, hg, rfl, hqa, hqb, hbw⟩ := hrel;have Hg := hd_ hg;have HA1 := hd_ hqa;have HB1 := hd_ hqb;have HBW1 := hd_ hbw;clear hg hqa hqb hbw;by_cases hlt : i < 288
   ·have c0 := fRow_cell HA1.out hlt
    have f0 := frozen_of_row wr a i _ _ HA1.out;have hfl := df.fixL_get i hlt;have hin : (i : Int) < 288 := (by omega);by_cases q1 : i < 144
    ·have q1i : (i : Int) < 144 := by omega
     rw [if_pos (.inl q1)] at hfl;have HA2 := hd_ (fRow_store (g := fun j => if j < i + 1 then df.fixL.getD j 0 else 0) HA1.out 8 (by show (if i < i + 1 then _ else _) = _; rw [if_pos (Nat.lt_succ_self i), hfl]) (fun j _ hji => by show (if j < i + 1 then _ else _) = (if j < i then _ else _); by_cases h : j < i; rw [if_pos h, if_pos (by omega)]; rw [if_neg h, if_neg (by omega)]));have HB2 := hd_ ((grown_block (grownBy_setCell3 wr a i (.int .i64 ((8 : Nat) : Int))) HB1.out (fun e => HNE.out (Option.some.inj e).symm)));have HBW2 := hd_ (HBW1.out.setCell (p := ⟨a, i, none⟩) HAB.out.1 (.int .i64 ((8 : Nat) : Int)));clear hfl;go_wp2_with fail
     go_roundg (288 - (i + 1))
     case measure => have := Hg.out; omega
     case rel => exact ⟨i + 1, by omega, rfl, by go_num, HA2.out, HB2.out, HBW2.out⟩
    ·have q1i : ¬ (i : Int) < 144 := by omega
     by_cases q2 : 279 < i
     ·have q2i : 279 < (i : Int) := by omega
      rw [if_pos (.inr q2)] at hfl;have HA2 := hd_ (fRow_store (g := fun j => if j < i + 1 then df.fixL.getD j 0 else 0) HA1.out 8 (by show (if i < i + 1 then _ else _) = _; rw [if_pos (Nat.lt_succ_self i), hfl]) (fun j _ hji => by show (if j < i + 1 then _ else _) = (if j < i then _ else _); by_cases h : j < i; rw [if_pos h, if_pos (by omega)]; rw [if_neg h, if_neg (by omega)]));have HB2 := hd_ ((grown_block (grownBy_setCell3 wr a i (.int .i64 ((8 : Nat) : Int))) HB1.out (fun e => HNE.out (Option.some.inj e).symm)));have HBW2 := hd_ (HBW1.out.setCell (p := ⟨a, i, none⟩) HAB.out.1 (.int .i64 ((8 : Nat) : Int)));clear hfl;go_wp2_with fail
      go_roundg (288 - (i + 1))
      case measure => have := Hg.out; omega
      case rel => exact ⟨i + 1, by omega, rfl, by go_num, HA2.out, HB2.out, HBW2.out⟩
     ·have q2i : ¬ 279 < (i : Int) := by omega
      rw [if_neg (by omega)] at hfl;by_cases q3 : i < 256
      ·have q3i : (i : Int) < 256 := by omega
       rw [if_pos q3] at hfl;have HA2 := hd_ (fRow_store (g := fun j => if j < i + 1 then df.fixL.getD j 0 else 0) HA1.out 9 (by show (if i < i + 1 then _ else _) = _; rw [if_pos (Nat.lt_succ_self i), hfl]) (fun j _ hji => by show (if j < i + 1 then _ else _) = (if j < i then _ else _); by_cases h : j < i; rw [if_pos h, if_pos (by omega)]; rw [if_neg h, if_neg (by omega)]));have HB2 := hd_ ((grown_block (grownBy_setCell3 wr a i (.int .i64 ((9 : Nat) : Int))) HB1.out (fun e => HNE.out (Option.some.inj e).symm)));have HBW2 := hd_ (HBW1.out.setCell (p := ⟨a, i, none⟩) HAB.out.1 (.int .i64 ((9 : Nat) : Int)));clear hfl;go_wp2_with fail
       go_roundg (288 - (i + 1))
       case measure => have := Hg.out; omega
       case rel => exact ⟨i + 1, by omega, rfl, by go_num, HA2.out, HB2.out, HBW2.out⟩
      ·have q3i : ¬ (i : Int) < 256 := by omega
       rw [if_neg q3] at hfl;have HA2 := hd_ (fRow_store (g := fun j => if j < i + 1 then df.fixL.getD j 0 else 0) HA1.out 7 (by show (if i < i + 1 then _ else _) = _; rw [if_pos (Nat.lt_succ_self i), hfl]) (fun j _ hji => by show (if j < i + 1 then _ else _) = (if j < i then _ else _); by_cases h : j < i; rw [if_pos h, if_pos (by omega)]; rw [if_neg h, if_neg (by omega)]));have HB2 := hd_ ((grown_block (grownBy_setCell3 wr a i (.int .i64 ((7 : Nat) : Int))) HB1.out (fun e => HNE.out (Option.some.inj e).symm)));have HBW2 := hd_ (HBW1.out.setCell (p := ⟨a, i, none⟩) HAB.out.1 (.int .i64 ((7 : Nat) : Int)));clear hfl;go_wp2_with fail
       go_roundg (288 - (i + 1))
       case measure => have := Hg.out; omega
       case rel => exact ⟨i + 1, by omega, rfl, by go_num, HA2.out, HB2.out, HBW2.out⟩
   ·obtain rfl : i = 288 := by omega
    have HS1 := hd_ (fRow_sl (ls := df.fixL) HA1.out df.fixL_length (fun j hj => if_pos hj) (by decide) (fun x hx => Nat.le_trans (df.fixL_le x hx) (by decide)));go_wp2_with fail
    go_loopg [39] 30 (fun gk2 s39 wq => ∃ i : Nat, i <= 30 /\ gk2 = 30 - i /\ s39 = .int .i64 (i : Nat) /\ wq.heap[b]? = some (.cells (fRow .i64 (fun j => if j < i then 5 else 0) 30) 3 (0, 0)) /\ Sl .i64 wq (some ⟨a, 0, none⟩) 288 288 (nats df.fixL) /\ Below w.heap.size w wq)
    case atStart => exact ⟨0, Nat.zero_le _, rfl, by go_num, by simpa using HB1.out, HS1.out, HBW1.out⟩
    case round =>
     obtain ⟨i, hi, hg2, rfl, hqb, hsl, hbw⟩ := hrel;have Hg2 := hd_ hg2;have HB2 := hd_ hqb;have HS2 := hd_ hsl;have HBW2 := hd_ hbw;clear hg2 hqb hsl hbw;by_cases hlt2 : i < 30
     ·have c0 := fRow_cell HB2.out hlt2
      have f0 := frozen_of_row wr b i _ _ HB2.out;have hin : (i : Int) < 30 := (by omega);have HB3 := hd_ (fRow_store (g := fun j => if j < i + 1 then 5 else 0) HB2.out 5 (by show (if i < i + 1 then _ else _) = _; rw [if_pos (Nat.lt_succ_self i)]) (fun j _ hji => by show (if j < i + 1 then _ else _) = (if j < i then _ else _); by_cases h : j < i; rw [if_pos h, if_pos (by omega)]; rw [if_neg h, if_neg (by omega)]));have HS3 := hd_ (HS2.out.grown (grownBy_setCell3 wr b i (.int .i64 ((5 : Nat) : Int))) (fun e => HNE.out (Option.some.inj e)));have HBW3 := hd_ (HBW2.out.setCell (p := ⟨b, i, none⟩) HAB.out.2 (.int .i64 ((5 : Nat) : Int)));go_wp2_with fail
      go_roundg (30 - (i + 1))
      case measure => have := Hg2.out; omega
      case rel => exact ⟨i + 1, by omega, rfl, by go_num, HB3.out, HS3.out, HBW3.out⟩
     ·obtain rfl : i = 30 := by omega
      have HD := hd_ (fRow_sl (ls := df.fixD) HB2.out df.fixD_length (fun j hj => by show (if j < 30 then 5 else 0) = _; rw [if_pos hj, df.fixD_get j hj]) (by decide) (fun x hx => by rw [List.eq_of_mem_replicate hx]; decide));have C1 := hd_ (KN.out _ _ _ _ _ HS2.out (by decide) df.fixL_ok);go_wp2_with fail
      refine C1.out.mono ?_;rintro e w5 ⟨g1, t1, rfl, hd1, hb5⟩;have C2 := hd_ (KN.out _ _ _ _ _ (HD.out.below hb5) (by decide) df.fixD_ok);have HD1 := hd_ hd1;have HB5 := hd_ hb5;clear hd1 hb5 C1;go_wp2_with fail
      refine C2.out.mono ?_;rintro e w6 ⟨g2, t2, rfl, hd2, hb6⟩;have HD2 := hd_ ((hd2.base HB5.out.size).base HBW2.out.size);have HD3 := hd_ ((HD1.out.below6 hb6).base HBW2.out.size);have HB6 := hd_ (HBW2.out.trans ((HB5.out.trans (hb6.mono HB5.out.size)).mono HBW2.out.size));clear hd2 hb6 C2;go_wp2_with fail
      go_ret2
      exact ⟨g1, g2, t1, t2, rfl, HD3.out, HD2.out, HB6.out⟩
namespace pb
structure Ck (w : World) (x : Cn × pm.Coin) : Prop where
 wt : x.1.w = x.2.w
 pos : 1 <= x.1.n
 at' : ∃ g, x.1.a = some ⟨g, 0, none⟩ /\ In w g x.1.n x.1.c x.2.s
def All (w : World) (T : List (Cn × pm.Coin)) : Prop := ∀ x ∈ T, Ck w x
theorem Ck.below {w w' : World} {x : Cn × pm.Coin} (h : Ck w x) (hb : Below w.heap.size w w') : Ck w' x := by
 obtain ⟨g, e, h1⟩ := h.at';exact ⟨h.wt, h.pos, g, e, h1.below hb⟩
theorem In_grown {w w' : World} {ob : Option Nat} {b n c : Nat} {ls : List Nat} (h : In w b n c ls) (hg : w.grownBy w' ob) (hne : some b ≠ ob) : In w' b n c ls := by
 obtain ⟨cur, hc⟩ := h.ty;have h1 := (hg.block b (block_lt hc) hne).trans hc;exact ⟨h.sl.same (h1.trans hc.symm), cur, h1⟩
theorem Ck.grown {w w' : World} {x : Cn × pm.Coin} (h : Ck w x) {ob : Option Nat} (hg : w.grownBy w' ob) (hob : ∀ b, ob = some b -> ∃ cur, w.heap[b]? = some (.cells cur 222 (0, 0))) : Ck w' x := by
 obtain ⟨g, e, h1⟩ := h.at';refine ⟨h.wt, h.pos, g, e, In_grown h1 hg ?_⟩;intro e2;obtain ⟨cur, hc⟩ := hob g e2.symm;obtain ⟨cur2, hc2⟩ := h1.ty;exact ne_of_types hc hc2 (by decide) rfl
theorem All.below {w w' : World} {T : List (Cn × pm.Coin)} (h : All w T) (hb : Below w.heap.size w w') : All w' T := fun x hx => (h x hx).below hb
theorem All.grown {w w' : World} {T : List (Cn × pm.Coin)} (h : All w T) {ob : Option Nat} (hg : w.grownBy w' ob) (hob : ∀ b, ob = some b -> ∃ cur, w.heap[b]? = some (.cells cur 222 (0, 0))) : All w' T := fun x hx => (h x hx).grown hg hob
theorem All.append {w : World} {T U : List (Cn × pm.Coin)} (h : All w T) (h' : All w U) : All w (T ++ U) := fun x hx => (List.mem_append.1 hx).elim (h x) (h' x)
theorem own_coin {base : Nat} {w : World} {v : Value} {t : List Cn} (h : OwnK base w v t) : ∀ b, v.ownBlock = some b -> base <= b /\ b < w.heap.size /\ ∃ cur, w.heap[b]? = some (.cells cur 222 (0, 0)) := by
 intro b hb;rcases h.2 with ⟨h', _⟩ | ⟨g, cap, cur, h', h1, h2, _⟩
 ·rw [h'] at hb
  cases hb
 ·rw [h'] at hb
  obtain rfl : g = b := Option.some.inj hb;exact ⟨h1, block_lt h2, cur, h2⟩
theorem run_append_k (w : World) (ty : TypeId) (base : Nat) (v : Value) (t : List Cn) (k : Cn) (h : OwnK base w v t) (hl : t.length <= 1099511627776) (hb : base <= w.heap.size) (g : Nat) (hg : w.heap[g]? = some (.cells #[.int .i64 (k.w : Nat), .slice k.a k.n k.c] 222 (0, 0))) :
  ∃ v' w', (Builtin.append_ #[220, 220] ty #[v, .slice (some ⟨g, 0, none⟩) 1 1]).run Tryz.prog w = .ok v' w' /\ (OwnK base w' v' (t ++ [k]) /\ w.grownBy w' v.ownBlock) := by
 obtain ⟨i, hi, hz, hs, hby⟩ := info_parts infoCoin;obtain ⟨v', w', h1, h2, h3, _, _⟩ := run_append_own_at (P := Tryz.prog) w base 220 ty 222 i _ 2 32 Tryz.underlying220 hi hz hs hby rfl (by decide) v t.length (kRow t) h ⟨g, 0, none⟩ 1 1 k.cells rfl (by
  intro j u hu;rw [Addr.add_mid, Nat.zero_add, cell_of_row w g j _ _ (0, 0) hg];rw [<- hu];simp [Cn.cells]) k.cells_one (by unfold maxLen; omega) (by omega) hb
 refine ⟨v', w', h1, ?_, h3⟩;unfold OwnK;rw [kRow_snoc, List.length_append];exact h2
theorem k_src {base : Nat} {w : World} {v : Value} {t : List Cn} (h : OwnK base w v t) : ∃ a c, v = .slice a t.length c /\ (⟨a, t.length, c, kRow t⟩ : Src).Ok 2 w := by
 have hone : ∀ u ∈ kRow t, u.oneCell' = true := by
  intro u hu;obtain ⟨k, _, hk⟩ := List.mem_flatMap.1 hu;exact k.cells_one u hk
 rcases h.2 with ⟨h', h0⟩ | ⟨g, cap, cur, h', h1, h2, h3, h4, h5, h6⟩
 ·have hl := h.1
  rw [h0] at hl;have hl0 : t.length = 0 := by simp at hl; omega
  exact ⟨none, 0, by rw [h', hl0], by rw [kRow_length], hone, .inl ⟨rfl, hl0, rfl⟩⟩
 ·refine ⟨some ⟨g, 0, none⟩, cap, h', by rw [kRow_length], hone, .inr ⟨_, rfl, fun j u hu => ?_⟩⟩
  have h1 := World.ownsRow.cells h (g := g) (by rw [h']; rfl) j u hu;exact h1
theorem pair_mem {r : List pm.Coin} {p : pm.Coin × pm.Coin} (h : p ∈ pm.pairs r) : p.1 ∈ r /\ p.2 ∈ r := by
 obtain ⟨z, hz, _⟩ := pm.pairs_flat r;have h1 : p.1 ∈ pm.flat (pm.pairs r) /\ p.2 ∈ pm.flat (pm.pairs r) := by
  constructor <;> exact List.mem_flatMap.2 ⟨p, h, by simp⟩
 rw [hz];exact ⟨List.mem_append_left _ h1.1, List.mem_append_left _ h1.2⟩
theorem pairs_get : ∀ (r : List pm.Coin) (j : Nat) (a b : pm.Coin), r[2 * j]? = some a -> r[2 * j + 1]? = some b -> (pm.pairs r)[j]? = some (a, b)
 | [], j, a, b, h, _ => by simp at h
 | [x], j, a, b, _, h => by simp at h
 | x :: y :: r, 0, a, b, h1, h2 => by
  simp at h1 h2;subst h1 h2;rfl
 | x :: y :: r, j + 1, a, b, h1, h2 => by
  show (pm.pairs r)[j]? = _;refine pairs_get r j a b ?_ ?_
  ·rw [<- h1, show 2 * (j + 1) = 2 * j + 1 + 1 by omega]
   simp
  ·rw [<- h2, show 2 * (j + 1) + 1 = 2 * j + 1 + 1 + 1 by omega]
   simp
theorem rows_bound {wt : Nat -> Nat} {U : List Nat} {M k : Nat} {R : List pm.Coin} (h : pm.Rows (pm.own wt U) k R) (hw : ∀ i ∈ U, wt i <= M) : ∀ c ∈ R, c.s.length <= 2 ^ k /\ 1 <= c.s.length /\ c.w <= 2 ^ k * M := by
 have ho : ∀ c ∈ pm.own wt U, c.s.length = 1 /\ c.w <= M := by
  intro c hc;obtain ⟨i, hi, rfl⟩ := List.mem_map.1 hc;exact ⟨rfl, hw i hi⟩
 induction h with
 | base hp _ =>
  intro c hc;have h1 := ho c (hp.subset hc);exact ⟨by rw [h1.1]; decide, by rw [h1.1]; decide, by omega⟩
 | @step k r r' _ hp _ ih =>
  intro c hc;have e2 : 2 ^ (k + 1) = 2 * 2 ^ k := by rw [Nat.pow_succ]; omega
  have hpos : 1 <= 2 ^ k := Nat.one_le_two_pow;have e3 : 2 ^ (k + 1) * M = 2 ^ k * M + 2 ^ k * M := by rw [e2, Nat.mul_assoc]; omega
  rcases List.mem_append.1 (hp.subset hc) with h1 | h1
  ·have h2 := ho c h1
   have : M <= 2 ^ k * M := Nat.le_mul_of_pos_left _ hpos;exact ⟨by omega, by omega, by omega⟩
  ·obtain ⟨p, hpm, rfl⟩ := List.mem_map.1 h1
   have h2 := pair_mem hpm;have a1 := ih p.1 h2.1;have a2 := ih p.2 h2.2;refine ⟨?_, ?_, ?_⟩
   ·show (p.1.s ++ p.2.s).length <= _
    rw [List.length_append];omega
   ·show 1 <= (p.1.s ++ p.2.s).length
    rw [List.length_append];omega
   ·show p.1.w + p.2.w <= _
    omega
theorem own_length (wt : Nat -> Nat) (U : List Nat) : (pm.own wt U).length = U.length := List.length_map _
theorem rows_len {wt : Nat -> Nat} {U : List Nat} {k : Nat} {R : List pm.Coin} (h : pm.Rows (pm.own wt U) k R) : U.length <= R.length /\ R.length <= 2 * U.length /\ (2 * U.length - R.length) * 2 ^ k < U.length + 2 ^ k := by
 induction h with
 | base hp _ =>
  have h1 := hp.length_eq;rw [own_length] at h1;refine ⟨by omega, by omega, ?_⟩;rw [h1, Nat.pow_zero];omega
 | @step k r r' _ hp _ ih =>
  have h1 := hp.length_eq;obtain ⟨_, _, _, h2⟩ := pm.pairs_flat r;rw [List.length_append, List.length_map, own_length, h2] at h1;refine ⟨by omega, by omega, ?_⟩;obtain ⟨_, i2, i3⟩ := ih;have e2 : 2 ^ (k + 1) = 2 ^ k + 2 ^ k := by rw [Nat.pow_succ]; omega
  obtain ⟨d, hd⟩ : ∃ d, d = 2 * U.length - r.length := ⟨_, rfl⟩;obtain ⟨d', hd'⟩ : ∃ d', d' = 2 * U.length - r'.length := ⟨_, rfl⟩;rw [<- hd] at i3;rw [<- hd', e2];have h3 : d' + d' <= d + 1 := by omega
  have h4 : (d' + d') * 2 ^ k <= (d + 1) * 2 ^ k := Nat.mul_le_mul_right _ h3;rw [Nat.add_mul, Nat.add_mul, Nat.one_mul] at h4;rw [Nat.mul_add];omega
theorem rows_enough {wt : Nat -> Nat} {U : List Nat} {k : Nat} {R : List pm.Coin} (h : pm.Rows (pm.own wt U) k R) (hU : U.length <= 2 ^ (k + 1)) : 2 * U.length <= R.length + 2 := by
 obtain ⟨_, _, h3⟩ := rows_len h;rcases Nat.lt_or_ge (R.length + 2) (2 * U.length) with h4 | h4
 ·have h5 : 3 * 2 ^ k <= (2 * U.length - R.length) * 2 ^ k := Nat.mul_le_mul_right _ (by omega)
  rw [Nat.pow_succ] at hU;omega
 ·exact h4
def cntRow (m : Nat) (q : List Nat) : List Nat := (List.range m).map fun s => q.count s
theorem cntRow_length (m : Nat) (q : List Nat) : (cntRow m q).length = m := by simp [cntRow]
theorem cntRow_get {m s : Nat} (q : List Nat) (h : s < m) : (cntRow m q).getD s 0 = q.count s := by
 simp [cntRow, List.getD_eq_getElem?_getD, h]
theorem kraft_rep (n : Nat) : pf.kraft (List.replicate n 0) = 0 := by
 unfold pf.kraft;rw [List.map_replicate, List.sum_replicate_nat];simp [pf.part]
theorem nz_rep (n : Nat) : pf.nz (List.replicate n 0) = 0 := by
 unfold pf.nz;rw [List.countP_eq_zero];intro x hx;rw [List.eq_of_mem_replicate hx];decide
theorem foldl_rep (n : Nat) (b : Bool) : (List.replicate n 0).foldl (fun b x => if 0 < x then x == 1 else b) b = b := by
 induction n with
 | zero => rfl
 | succ n ih => exact ih
theorem set_rep {n s : Nat} (h : s < n) : (List.replicate n 0).set s 1 = List.replicate s 0 ++ 1 :: List.replicate (n - s - 1) 0 := by
 apply List.ext_getElem?
 intro i;rw [List.getElem?_set];by_cases h1 : s = i
 ·subst h1
  rw [if_pos rfl, List.getElem?_append_right (by simp)];simp [h]
 ·rw [if_neg h1, List.getElem?_replicate]
  rcases Nat.lt_or_ge i s with h2 | h2
  ·rw [List.getElem?_append_left (by simpa using h2), List.getElem?_replicate, if_pos (by omega), if_pos h2]
  ·rw [List.getElem?_append_right (by simpa using h2), List.length_replicate, show i - s = (i - s - 1) + 1 by omega, List.getElem?_cons_succ, List.getElem?_replicate]
   by_cases h3 : i < n
   ·rw [if_pos h3, if_pos (by omega)]
   ·rw [if_neg h3, if_neg (by omega)]
theorem zero_ok (n : Nat) : pf.Ok (List.replicate n 0) := ⟨fun l hl => by rw [List.eq_of_mem_replicate hl]; exact Nat.zero_le _, by rw [kraft_rep]; exact Nat.zero_le _⟩
theorem one_ok {n s : Nat} (h : s < n) : pf.Ok ((List.replicate n 0).set s 1) /\ (∀ l ∈ (List.replicate n 0).set s 1, l <= 1) /\ pf.nz ((List.replicate n 0).set s 1) = 1 /\ pf.one ((List.replicate n 0).set s 1) = true := by
 have hle : ∀ l ∈ (List.replicate n 0).set s 1, l <= 1 := by
  intro l hl;rcases List.mem_or_eq_of_mem_set hl with h1 | rfl
  ·rw [List.eq_of_mem_replicate h1]
   decide
  ·exact Nat.le_refl _
 refine ⟨⟨fun l hl => Nat.le_trans (hle l hl) (by decide), ?_⟩, hle, ?_, ?_⟩
 ·rw [set_rep h]
  unfold pf.kraft;rw [List.map_append, List.sum_append, List.map_cons, List.sum_cons];have h1 := kraft_rep s;have h2 := kraft_rep (n - s - 1);unfold pf.kraft at h1 h2;rw [h1, h2];decide
 ·rw [set_rep h]
  unfold pf.nz;rw [List.countP_append, List.countP_cons];have h1 := nz_rep s;have h2 := nz_rep (n - s - 1);unfold pf.nz at h1 h2;rw [h1, h2];rfl
 ·rw [set_rep h]
  unfold pf.one;rw [List.foldl_append, foldl_rep, List.foldl_cons, foldl_rep];rfl
theorem syms_len (l : List pm.Coin) (M : Nat) (h : ∀ c ∈ l, c.s.length <= M) : (pm.syms l).length <= l.length * M := by
 induction l with
 | nil => simp [pm.syms]
 | cons c r ih =>
  have h1 := ih fun x hx => h x (by simp [hx])
  have h2 := h c (by simp);have e : pm.syms (c :: r) = c.s ++ pm.syms r := rfl;rw [e, List.length_append, List.length_cons, Nat.add_mul];omega
theorem rows_sorted {o : List pm.Coin} {k : Nat} {R : List pm.Coin} (h : pm.Rows o k R) : pm.Sorted R := by
 cases h with
 | base _ h => exact h
 | step _ _ h => exact h
theorem dom_of_sorted {R : List pm.Coin} (h : pm.Sorted R) (c : Nat) : pm.Dom (R.take c) (R.drop c) := by
 unfold pm.Sorted at h;rw [<- List.take_append_drop c R, List.pairwise_append] at h;exact h.2.2
theorem rep_of_fRow {w : World} {g n : Nat} {f : Nat -> Nat} {os : List Nat} (h : w.heap[g]? = some (.cells (fRow .i64 f n) 3 (0, 0))) (hl : os.length = n) (hf : ∀ i, i < n -> f i = os.getD i 0) (hn : n <= 4096) (hle : ∀ x ∈ os, x <= 1099511627776) : In w g n n os :=
 ⟨fRow_sl h hl hf (by omega) hle, _, h⟩
end pb
end Go.Proofs.YthpckmcgbmfmcaaGreatDoor
namespace Go.Proofs.YthpckmcgbmfmcaaGreatDoor
open Go.RowKit Go.Sort pb
theorem Ck_sorted {w : World} {T' : List (Cn × pm.Coin)} (h : pb.All w T') (hs : so.Srt Cn.w (so.at' Cn.zero (T'.map (·.1))) 0 (T'.map (·.1)).length) : pm.Sorted (T'.map (·.2)) := by
 unfold pm.Sorted;rw [List.pairwise_iff_getElem];intro i j hi hj hij;rw [List.length_map] at hi hj;have h1 := hs i j (Nat.zero_le _) hij (by rw [List.length_map]; exact hj);unfold so.at' at h1;rw [List.getD_eq_getElem?_getD, List.getD_eq_getElem?_getD, List.getElem?_map, List.getElem?_map, List.getElem?_eq_getElem hi, List.getElem?_eq_getElem hj] at h1;simp only [Option.map_some, Option.getD_some] at h1;rw [(h _ (List.getElem_mem hi)).wt, (h _ (List.getElem_mem hj)).wt] at h1;rw [List.getElem_map, List.getElem_map];exact h1
theorem sortT_any (base b cap n : Nat) (T : List (Cn × pm.Coin)) (w : World) (h : RowK base w b cap (T.map (·.1))) (hA : pb.All w T) (hn : T.length = n) (hl : n <= 1073741824) :
  Calls Tryz.prog 141 #[.slice (some ⟨b, 0, none⟩) n cap, .func (.func 139) #[] #[]] w fun e w' =>
   e = .returned (.tuple #[]) /\ ∃ T', T'.Perm T /\ RowK base w' b cap (T'.map (·.1)) /\ pb.All w' T' /\ pm.Sorted (T'.map (·.2)) /\ w.grownBy w' (some b) := by
 have hn' : (T.map (·.1)).length = n := by rw [List.length_map]; exact hn
 have key := ksort_any base b cap (T.map (·.1)) w h (by omega);rw [hn'] at key;refine key.mono ?_;rintro e w' ⟨he, t', hp, hs, hr, hg⟩;refine ⟨he, ?_⟩;obtain ⟨T', hpT, rfl⟩ := pm.perm_map (·.1) (P := T) hp.perm;have hA' : pb.All w' T' := fun x hx => (hA x (hpT.subset hx)).grown hg (fun c e => by
  obtain rfl : b = c := Option.some.inj e;obtain ⟨_, cur, h1, _⟩ := h.block;exact ⟨cur, h1⟩)
 refine ⟨T', hpT, hr, hA', Ck_sorted hA' ?_, hg⟩;rw [List.length_map, hpT.length_eq, hn];exact hs
theorem catT_any (base sb n m : Nat) (u v : Value) (T P : List (Cn × pm.Coin)) (w : World) (hu : OwnK base w u (T.map (·.1))) (hv : OwnK base w v (P.map (·.1))) (hc : w.heap[sb]? = some (.cells #[u, v] 220 (0, 0))) (hA : pb.All w T) (hB : pb.All w P) (hn : T.length = n) (hm : P.length = m) (hnm : n <= 1048576) (hmm : m <= 1048576) (hpos : 1 <= n) :
  Calls Tryz.prog 142 #[.slice (some ⟨sb, 0, none⟩) 2 2] w fun e w' =>
   ∃ g c, e = .returned (.slice (some ⟨g, 0, none⟩) (n + m) c) /\ w.heap.size <= g /\ RowK w.heap.size w' g c ((T ++ P).map (·.1)) /\ pb.All w' (T ++ P) /\ Below w.heap.size w w' := by
 obtain ⟨a1, c1, rfl, h1⟩ := k_src hu;obtain ⟨a2, c2, rfl, h2⟩ := k_src hv;have hl1 : (T.map (·.1)).length = n := by rw [List.length_map]; exact hn
 have hl2 : (P.map (·.1)).length = m := by rw [List.length_map]; exact hm
 have key := kcat_any sb 0 2 [⟨a1, (T.map (·.1)).length, c1, kRow (T.map (·.1))⟩, ⟨a2, (P.map (·.1)).length, c2, kRow (P.map (·.1))⟩] w (by
  intro i s hs
  match i, hs with
  | 0, hs => cases hs; exact (cell_of_row w sb 0 _ _ (0, 0) hc).trans rfl
  | 1, hs => cases hs; exact (cell_of_row w sb 1 _ _ (0, 0) hc).trans rfl
  | i + 2, hs => simp at hs) (show 2 <= 4096 by decide) (by
  intro s hs;rcases List.mem_cons.1 hs with rfl | hs
  ·exact h1
  ·obtain rfl := List.mem_singleton.1 hs
   exact h2) (by
  show ([_, _].sum : Nat) <= _;simp only [List.sum_cons, List.sum_nil, hl1, hl2];omega) (Nat.le_refl 2)
 refine Calls.mono key ?_;rintro e w' ⟨v, rfl, ho, hb⟩;have hcv : catV [⟨a1, (T.map (·.1)).length, c1, kRow (T.map (·.1))⟩, ⟨a2, (P.map (·.1)).length, c2, kRow (P.map (·.1))⟩] = kRow ((T ++ P).map (·.1)) := by
  rw [List.map_append, kRow_append];show kRow _ ++ (kRow _ ++ []) = _;rw [List.append_nil]
 have hcn : catN [⟨a1, (T.map (·.1)).length, c1, kRow (T.map (·.1))⟩, ⟨a2, (P.map (·.1)).length, c2, kRow (P.map (·.1))⟩] = n + m := by
  show (T.map (·.1)).length + ((P.map (·.1)).length + 0) = _;rw [hl1, hl2];rfl
 rw [hcv, hcn] at ho;obtain ⟨g, c, rfl, _⟩ := own_form ho (by omega);have hln : ((T ++ P).map (·.1)).length = n + m := by rw [List.length_map, List.length_append, hn, hm]
 have hr : RowK w.heap.size w' g c ((T ++ P).map (·.1)) := by
  unfold RowK OwnK;rw [hln];exact ho
 exact ⟨g, c, rfl, hr.block.1, hr, All.append (hA.below hb) (hB.below hb), hb⟩
theorem catI_any (sg n m ns a b : Nat) (c d : Nat) (sa sb : List Nat) (w : World) (hc : w.heap[sg]? = some (.cells #[.slice (some ⟨a, 0, none⟩) n c, .slice (some ⟨b, 0, none⟩) m d] 59 (0, 0))) (hA : In w a n c sa) (hB : In w b m d sb) (hns : n + m = ns) (hnb : ns <= 65536 /\ 1 <= ns) (hla : ∀ x ∈ sa, x <= 4096) (hlb : ∀ x ∈ sb, x <= 4096) :
  Calls Tryz.prog 100 #[.slice (some ⟨sg, 0, none⟩) 2 2] w fun e w' =>
   ∃ g c, e = .returned (.slice (some ⟨g, 0, none⟩) ns c) /\ w.heap.size <= g /\ In w' g ns c (sa ++ sb) /\ Below w.heap.size w w' := by
 have key := icat_any sg 0 2 [⟨some ⟨a, 0, none⟩, n, c, (nats sa).map (Value.int .i64)⟩, ⟨some ⟨b, 0, none⟩, m, d, (nats sb).map (Value.int .i64)⟩] w (by
  intro i s hs
  match i, hs with
  | 0, hs => cases hs; exact (cell_of_row w sg 0 _ _ (0, 0) hc).trans rfl
  | 1, hs => cases hs; exact (cell_of_row w sg 1 _ _ (0, 0) hc).trans rfl
  | i + 2, hs => simp at hs) (show 2 <= 4096 by decide) (by
  intro s hs;rcases List.mem_cons.1 hs with rfl | hs
  ·exact src_sl hA.sl
  ·obtain rfl := List.mem_singleton.1 hs
   exact src_sl hB.sl) (by
  show ([n, m].sum : Nat) <= _;simp only [List.sum_cons, List.sum_nil];omega) (Nat.le_refl 2)
 refine Calls.mono key ?_;rintro e w' ⟨v, rfl, ho, hb⟩;have hcv : catV [⟨some ⟨a, 0, none⟩, n, c, (nats sa).map (Value.int .i64)⟩, ⟨some ⟨b, 0, none⟩, m, d, (nats sb).map (Value.int .i64)⟩] = (nats (sa ++ sb)).map (Value.int .i64) := by
  show _ ++ (_ ++ []) = _;rw [List.append_nil];unfold nats;rw [<- List.map_append, <- List.map_append]
 have hcn : catN [⟨some ⟨a, 0, none⟩, n, c, (nats sa).map (Value.int .i64)⟩, ⟨some ⟨b, 0, none⟩, m, d, (nats sb).map (Value.int .i64)⟩] = ns := by
  show n + (m + 0) = _;exact hns
 rw [hcv, hcn] at ho;obtain ⟨g, cc, rfl, hg, hin⟩ := own_in ho (by omega) (by
  intro x hx;rcases List.mem_append.1 hx with h | h
  ·exact Nat.le_trans (hla x h) (by decide)
  ·exact Nat.le_trans (hlb x h) (by decide))
 exact ⟨g, cc, rfl, hg, hin, hb⟩
def NewC (ob ws ns : Nat) (l : List Nat) (v : Value) (w : World) : Prop := ∃ ga g c, v = .slice (some ⟨ga, 0, none⟩) 1 1 /\ w.heap[ga]? = some (.cells #[.int .i64 (ws : Nat), .slice (some ⟨g, 0, none⟩) ns c] 222 (0, 0)) /\ ob < g /\ In w g ns c l
theorem NewC.below {ob ws ns : Nat} {l : List Nat} {v : Value} {w w' : World} (h : NewC ob ws ns l v w) (hb : Below w.heap.size w w') : NewC ob ws ns l v w' := by
 obtain ⟨ga, g, c, h1, h2, h3, h4⟩ := h;exact ⟨ga, g, c, h1, (hb.block _ (block_lt h2)).trans h2, h3, h4.below hb⟩
end Go.Proofs.YthpckmcgbmfmcaaGreatDoor
