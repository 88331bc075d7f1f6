/- Texts of this claim, joined. -/
import Derived.Test.YthpckmcgbmfmcaaGreatDoorM17
import Derived.Shelf.Bytes.WriteByteKept
import Derived.Shelf.Bytes.WriteStringKept
import Derived.Lib.AppendIntMem
import Derived.Test.YthpckmcgbmfmcaaGreatDoorM15
import Derived.Lib.BufferOld
set_option maxRecDepth 100000
set_option maxHeartbeats 12800000
namespace Go.Proofs.YthpckmcgbmfmcaaGreatDoor
open Go.RowKit Go.Sort Go.Shelf
attribute [local go_sem] Oper.semAt_some
theorem samp1_any (v : Int) (hv : 0 <= v /\ v <= 65535) (tb : Nat) (w : World) (hc : w.cell? ⟨tb, 0, none⟩ = some (.int .i64 255)) :
  Calls Tryz.prog 89 #[.int .u16 v, .pointer (some ⟨tb, 0, none⟩)] w fun e w' => e = .returned (.int .i64 (tm.downV v 255)) /\ w = w' := by
 have CD := hd_ (down_any v 255 w hv);obtain ⟨x, hx⟩ : ∃ x, tm.downV v 255 = x := ⟨_, rfl⟩;rw [hx] at CD ⊢;clear hx;go_enter Tryz.func89, Tryz.ntmps89
 go_wp2_with fail
 refine CD.out.mono ?_;rintro e w1 ⟨rfl, rfl⟩;go_wp2_with fail
 go_ret
 exact ⟨rfl, rfl⟩
theorem samp1_grown (v : Int) (hv : 0 <= v /\ v <= 65535) (tb : Nat) (w : World) (hc : w.cell? ⟨tb, 0, none⟩ = some (.int .i64 255)) (d : Nat) (os : Array Obj) : Calls Tryz.prog 89 #[.int .u16 v, .pointer (some ⟨tb, 0, none⟩)] (grow (redrawn w d) os) fun e w'' => e = .returned (.int .i64 (tm.downV v 255)) /\ ∃ p : Regrown, w'' = grow (redrawn w p.d) p.os :=
 (samp1_any v hv tb _ (cell_regrown hc d os)).mono (by rintro e w' ⟨rfl, rfl⟩; exact ⟨rfl, ⟨d, os⟩, rfl⟩)
def SampPost (w : World) (e : Ending) (w' : World) : Prop := ∃ b, e = .returned (.slice (some ⟨b, 0, none⟩) 3 3) /\ w'.heap[b]? = some (.cells #[.int .i64 255, .int .i64 0, .int .i64 0] 3 (0, 0)) /\ w.heap.size <= b /\ Below w.heap.size w w'
theorem samples_red (w : World) : Calls Tryz.prog 42 #[.agg #[.int .u16 65535, .int .u16 0, .int .u16 0, .int .u16 65535], .int .i64 6, .int .i64 255] w (SampPost w) := by
 obtain ⟨q0, q1⟩ := heap2 w (.cells #[.int .u16 65535, .int .u16 0, .int .u16 0, .int .u16 65535] 41) (.cells #[.int .i64 255] 3);have B0 := hd_ (((Below.refl w.heap.size w).alloc (Nat.le_refl _) (.cells #[.int .u16 65535, .int .u16 0, .int .u16 0, .int .u16 65535] 41)).alloc (by simp) (.cells #[.int .i64 255] 3));have Q0 := hd_ q0;have Q1 := hd_ q1;clear q0 q1;go_enter Tryz.func42, Tryz.ntmps42
 go_upto_region 11 with (fail)
 generalize (w.alloc (.cells #[.int .u16 65535, .int .u16 0, .int .u16 0, .int .u16 65535] 41)).alloc (.cells #[.int .i64 255] 3) = w1 at *;have a0 := cell_regrown ((cr_ w1 0 Q0.out (Value.int .u16 65535) rfl));have a1 := cell_regrown ((cr_ w1 1 Q0.out (Value.int .u16 0) rfl));have a2 := cell_regrown ((cr_ w1 2 Q0.out (Value.int .u16 0) rfl));have ct := (cr_ w1 0 Q1.out (Value.int .i64 255) rfl);have C0 := hd_ (fun d os => samp1_grown 65535 (by omega) _ w1 ct d os);have C1 := hd_ (fun d os => samp1_grown 0 (by omega) _ w1 ct d os);rw [show tm.downV 65535 255 = 255 from rfl] at C0;rw [show tm.downV 0 255 = 0 from rfl] at C1;clear ct;refine wp_region_quiet_tail 12 (by kernel_rfl) (by kernel_rfl) ?_;simp only [List.take_succ_cons, List.take_zero, List.drop_succ_cons, List.drop_zero]
 go_big_quiet_step (fail)
 go_big_quiet_step (fail)
 go_big_quiet_step (fail)
 go_big_quiet_step (exact C0.out _ _)
 go_big_quiet_step (fail)
 go_big_quiet_step (fail)
 go_big_quiet_step (fail)
 go_big_quiet_step (exact C1.out _ _)
 go_big_quiet_step (fail)
 go_big_quiet_step (fail)
 go_big_quiet_step (fail)
 go_big_quiet_step (exact C1.out _ _)
 refine wpQuiet_nil ?_;intro _ hw';obtain ⟨⟨dq, osq⟩, hw''⟩ := hw';subst hw'';have hb := below_regrown w1 dq osq;clear a0 a1 a2;generalize grow (redrawn w1 dq) osq = w4 at *;have HB4 := hd_ (B0.out.trans (hb.mono B0.out.size));clear hb;go_wp2_with fail
 go_ret
 exact ⟨w4.heap.size, rfl, heap_alloc_new _ _, HB4.out.size, HB4.out.alloc HB4.out.size _⟩
end Go.Proofs.YthpckmcgbmfmcaaGreatDoor
namespace Go.Proofs.YthpckmcgbmfmcaaGreatDoor
open Go.RowKit Go.Sort Go.Shelf
theorem lit.wbyteK (B b : Nat) (bs : List Value) (c : Int) (w : World) (h : Lib.IsBuffer 85 5 B b bs w) (hBw : B <= w.heap.size) (h1 : ∀ v ∈ bs, v.oneCell' = true) (hlim : bs.length + 1 <= 140737488355328) :
  Calls Tryz.prog 92 #[.pointer (some ⟨b, 0, none⟩), .int .u8 c] w fun e w' => e = .returned .nilIface /\ Lib.IsBuffer 85 5 B b (bs ++ [.int .u8 c]) w' /\ Below B w w' /\ Lib.OthersKept 5 (some b) w w' := Any.Buffer_WriteByte_kept lit.laysM179 B b bs c w h hBw h1 hlim
theorem lit.wstrK (B b : Nat) (bs : List Value) (s : ByteArray) (w : World) (h : Lib.IsBuffer 85 5 B b bs w) (hBw : B <= w.heap.size) (h1 : ∀ v ∈ bs, v.oneCell' = true) (hlim : bs.length + s.size <= 140737488355328) :
  Calls Tryz.prog 39 #[.pointer (some ⟨b, 0, none⟩), .string s] w fun e w' => e = .returned (.tuple #[.int .i64 s.size, .nilIface]) /\ Lib.IsBuffer 85 5 B b (bs ++ Lib.byteCells s.data.toList) w' /\ Below B w w' /\ Lib.OthersKept 5 (some b) w w' := Any.Buffer_WriteString_kept lit.laysM178 B b bs s w h hBw h1 hlim
def lit.red : List Int := [255, 0, 0]
def lit.redB (k : Nat) : List Value := (lit.red.take k).map (Value.int .u8)
theorem lit.redB_one (k : Nat) : ∀ v ∈ lit.redB k, v.oneCell' = true := by
 intro v hv;obtain ⟨x, _, rfl⟩ := List.mem_map.1 hv;rfl
theorem lit.one_app {a b : List Value} (h : ∀ v ∈ a, v.oneCell' = true) (k : ∀ v ∈ b, v.oneCell' = true) : ∀ v ∈ a ++ b, v.oneCell' = true := by
 intro v hv;rcases List.mem_append.1 hv with h' | h'
 ·exact h v h'
 ·exact k v h'
theorem lit.redB_succ {k : Nat} (hk : k < 3) : lit.redB (k + 1) = lit.redB k ++ [.int .u8 (lit.red.getD k 0)] := by
 have : k = 0 \/ k = 1 \/ k = 2 := by omega
 rcases this with rfl | rfl | rfl <;> rfl
theorem lit.red_range (k : Nat) : 0 <= lit.red.getD k 0 /\ lit.red.getD k 0 <= 255 := by
 match k with
 | 0 => decide
 | 1 => decide
 | 2 => decide
 | k + 3 => exact ⟨by simp [lit.red], by simp [lit.red]⟩
def LinePost (B bb : Nat) (bs : List Value) (w : World) (e : Ending) (w' : World) : Prop :=
 e = .returned (.tuple #[]) /\ Lib.IsBuffer 85 5 B bb (bs ++ lit.redB 3) w' /\ Below B w w' /\ Lib.OthersKept 5 (some bb) w w'
theorem line_red (B bb lb lc : Nat) (bs : List Value) (cs : Array Value) (w : World) (h : Lib.IsBuffer 85 5 B bb bs w) (hBw : B <= w.heap.size) (h1 : ∀ v ∈ bs, v.oneCell' = true) (hbl : bs.length <= 1000)
  (hl : w.heap[lb]? = some (.cells cs 3 (0, 0))) (hcs : ∀ k, k < 3 -> cs[k]? = some (.int .i64 (lit.red.getD k 0))) (hlc : 3 <= lc) :
  Calls Tryz.prog 43 #[.pointer (some ⟨bb, 0, none⟩), .slice (some ⟨lb, 0, none⟩) 3 lc, .int .i64 6, .int .i64 255] w (LinePost B bb bs w) := by
 have HH := hd_ h;have H1 := hd_ h1;have HL := hd_ hl;have HCS := hd_ hcs;have hlb : lb ≠ bb := by
  obtain ⟨_, v, lr, hb, _⟩ := h;intro e;rw [e, hb] at hl;cases hl
 clear h h1 hl hcs;go_enter Tryz.func43, Tryz.ntmps43
 go_wp2_with fail
 go_loopg [8, 13] 3 (fun gk s8 s13 wr => ∃ k : Nat, k <= 3 /\ gk = 3 - k /\ s8 = .int .u8 0 /\ s13 = .int .i64 (k : Nat) /\ Lib.IsBuffer 85 5 B bb (bs ++ lit.redB k) wr /\ Below B w wr /\ Lib.OthersKept 5 (some bb) w wr)
 case atStart => exact ⟨0, by omega, rfl, rfl, by go_num, by rw [show lit.redB 0 = [] from rfl, List.append_nil]; exact HH.out, Below.refl _ _, Lib.OthersKept.refl _ _ _⟩
 case round =>
  obtain ⟨k, hk, hgk, rfl, rfl, hi, hb, ho⟩ := hrel;have Hg := hd_ hgk;have HI := hd_ hi;have HB := hd_ hb;have HO := hd_ ho;have hl2 := ho lb _ HL.out (by intro e; exact hlb (Option.some.inj e)) (by intro c fz e; cases e);have hsz := hb.size;clear hgk hi hb ho;by_cases hlt : k < 3
  ·have hki : (k : Int) < 3 := by omega
   have kc := (cell_of_row wr lb k _ _ (0, 0) hl2).trans (HCS.out k hlt);have hrr := lit.red_range k;have HSU := hd_ (lit.redB_succ hlt);obtain ⟨x, hx⟩ : ∃ x, lit.red.getD k 0 = x := ⟨_, rfl⟩;rw [hx] at kc hrr HSU;have hkc : ¬ lc = k := (by omega);obtain ⟨hx0, hx1⟩ := hrr;have hbk : (bs ++ lit.redB k).length + 1 <= 140737488355328 := by
    have : (lit.redB k).length <= 3 := (by unfold lit.redB; rw [List.length_map]; exact List.length_take_le' _ _);rw [List.length_append];omega
   have KW := hd_ (lit.wbyteK B bb (bs ++ lit.redB k) x wr HI.out (by omega) (lit.one_app H1.out (lit.redB_one k)) hbk);clear hl2 hx;go_wp2_with fail
   refine KW.out.mono ?_;rintro e w1 ⟨rfl, hi1, hb1, ho1⟩;rw [List.append_assoc, <- HSU.out] at hi1;have HI1 := hd_ hi1;have HB1 := hd_ (HB.out.trans hb1);have HO1 := hd_ (HO.out.trans ho1);clear hi1 hb1 ho1 KW kc;go_wp2_with fail
   go_roundg (3 - (k + 1))
   case measure => have := Hg.out; omega
   case rel => exact ⟨k + 1, by omega, rfl, rfl, by go_num, HI1.out, HB1.out, HO1.out⟩
  ·obtain rfl : k = 3 := by omega
   go_wp2_with fail
   refine bodyPost_end (results_none rfl _ _ _) rfl ?_;exact ⟨rfl, HI.out, HB.out, HO.out⟩
end Go.Proofs.YthpckmcgbmfmcaaGreatDoor
namespace Go.Proofs.YthpckmcgbmfmcaaGreatDoor
open Go.RowKit Go.Sort Go.Shelf
attribute [local go_sem] Oper.semAt_some
def lit.file : List Int := [80, 54, 10, 49, 32, 49, 10, 50, 53, 53, 10, 255, 0, 0]
def lit.EncPost (w : World) (e : Ending) (w' : World) : Prop :=
 ∃ v, e = .returned (.tuple #[v, .int .i64 0]) /\ w'.ownsRow w.heap.size 5 1 v 14 (lit.file.map (Value.int .u8)) /\ Below w.heap.size w w'
def lit.Tab (w : World) : Prop := Lib.TabIs Tryz.prog w lit.powName .u64 Lib.pow10Tab
theorem lit.Tab.below {w w' : World} (h : lit.Tab w) (hb : Below w.heap.size w w') : lit.Tab w' := (Lib.tabBelow_of_tabIs h) w' hb
theorem lit.itoa_grown (i : Nat) (hi : i < 100) (w : World) (d : Nat) (os : Array Obj) : Calls Tryz.prog 40 #[.int .i64 i] (grow (redrawn w d) os) fun e w'' => e = .returned (.string ⟨(Lib.decDigits i).toArray⟩) /\ ∃ p : Regrown, w'' = grow (redrawn w p.d) p.os :=
 (lit.itoaS i hi _).mono (by rintro e w' ⟨rfl, rfl⟩; exact ⟨rfl, ⟨d, os⟩, rfl⟩)
def lit.setRow (a : Act) (x : lit.Rw) : Act :=
 { tmps := ((a.tmps.setIfInBounds 62 (.int .i64 0)).setIfInBounds 63 (.slice (some ⟨x.1, 0, none⟩) 1 x.2)).setIfInBounds 12 (.slice (some ⟨x.1, 0, none⟩) 1 x.2), defers := [] }
structure lit.RowI (w1 : World) (ib bb : Nat) (pre : List lit.Rw) (W : World) : Prop where
 buf : Lib.IsBuffer 85 5 bb bb ((lit.file.take 11).map (Value.int .u8) ++ (if pre = [] then [] else lit.redB 3)) W
 p1 : W.heap[ib + 1]? = some (.cells #[.int .i64 6] 3 (0, 0))
 p2 : W.heap[ib + 1 + 1]? = some (.cells #[.int .i64 255] 3 (0, 0))
 low : Below ib w1 W
theorem lit.buf_kept {B b : Nat} {bs : List Value} {w w' : World} {row : Option Nat} {T e : TypeId} (h : Lib.IsBuffer T e B b bs w) (hg : w.grownBy w' row) (hr : ∀ r, row = some r -> r < B \/ ∃ o : Obj, w.heap[r]? = some o /\ o.isCells = false) : Lib.IsBuffer T e B b bs w' := by
 obtain ⟨hB, v, lr, hb, ho, hne⟩ := h;refine ⟨hB, v, lr, grown_block hg hb ?_, World.ownsRow.kept ho hg ?_, hne⟩
 ·intro e
  rcases hr b e.symm with h | ⟨o, h1, h2⟩
  ·omega
  ·rw [hb] at h1
   cases h1;cases h2
 ·rcases ho.2 with ⟨rfl, _⟩ | ⟨g', cap', cur, rfl, _, hgg, _⟩
  ·exact .inl rfl
  ·refine .inr ?_
   intro e;rcases hr g' e.symm with h | ⟨o, h1, h2⟩
   ·have := (World.ownsRow.lt ho g' rfl).1
    omega
   ·rw [hgg] at h1
    cases h1;cases h2
theorem lit.RowI.abides {w1 : World} {ib bb B : Nat} (h1 : ib < bb) (hs : w1.heap.size = bb) (h2 : bb <= B) : AbidesCur ib B (fun pre W => lit.RowI w1 ib bb pre W) := by
 intro s A W' row hs' hgr hr;have cell : ∀ (j : Nat) (v : Value), j ≠ ib -> A.heap[j]? = some (.cells #[v] 3 (0, 0)) -> W'.heap[j]? = some (.cells #[v] 3 (0, 0)) := fun j v hj hv => grown_block hgr hv fun e => by
  rcases hr j e.symm with h | ⟨_, o, h3, h4⟩
  ·exact hj h
  ·rw [hv] at h3
   cases h3;cases h4
 refine ⟨lit.buf_kept hs'.buf hgr fun r e => ?_, cell _ _ (by omega) hs'.p1, cell _ _ (by omega) hs'.p2, Below.grown hs'.low hgr ?_ fun r e => ?_⟩
 ·rcases hr r e with h | ⟨_, o, h3, h4⟩
  ·exact .inl (by omega)
  ·exact .inr ⟨o, h3, h4⟩
 ·have := hs'.low.size
  omega
 ·rcases hr r e with h | ⟨h, _⟩ <;> omega
theorem lit.rowNx_put {base B : Nat} {c : C4} : ∀ (pre : List lit.Rw) (x : lit.Rw) (W : World) (l : Nat) (o o' : Obj), lit.rowNx base c pre x W -> B <= l -> W.heap[l]? = some o -> o.isCells = false -> lit.rowNx base c pre x (W.putObj l o') := by
 intro pre x W l o o' ⟨h1, h2⟩ _ hl ho;refine ⟨h1, World.ownsRow.kept h2 (grownBy_putObj' W l o') ?_⟩;rcases h2.2 with ⟨h3, _⟩ | ⟨g', cap', cur, h3, _, hgg, _⟩
 ·cases h3
 ·refine .inr ?_
  intro e;cases h3;cases Option.some.inj e;rw [hgg] at hl;cases hl;cases ho
theorem lit.take_red {cur : Array Value} {n : Nat} (h : cur.toList.take (n * 1) = [.int .i64 255, .int .i64 0, .int .i64 0]) : ∀ k, k < 3 -> cur[k]? = some (.int .i64 (lit.red.getD k 0)) := by
 intro k hk;have h1 : (cur.toList.take (n * 1))[k]? = some (.int .i64 (lit.red.getD k 0)) := by
  rw [h];have : k = 0 \/ k = 1 \/ k = 2 := by omega
  rcases this with rfl | rfl | rfl <;> rfl
 rw [List.getElem?_take] at h1;split at h1
 ·simpa using h1
 ·cases h1
theorem lit.news_block {w : World} {b : Nat} {cs : Array Value} {t : TypeId} (h : w.heap[b]? = some (.cells cs t (0, 0))) : ∀ j u, cs.toList[j]? = some u -> w.cell? ((⟨b, 0, none⟩ : Addr).add j) = some u := by
 intro j u hu;have hh : ((⟨b, 0, none⟩ : Addr).add j) = ⟨b, j, none⟩ := by simp [Addr.add]; intro h; exact h.symm
 rw [hh, cell_of_row w b j _ _ (0, 0) h]
 simpa using hu
theorem lit.encode_any (g : Nat) (cap : Nat) (w : World) (h : Sl .u16 w (some ⟨g, 0, none⟩) 4 cap [65535, 0, 0, 65535]) (ht : lit.Tab w) :
  Calls Tryz.prog 17 #[.agg #[.int .i64 1, .int .i64 1, .slice (some ⟨g, 0, none⟩) 4 cap], .int .i64 6, .int .i64 255] w (lit.EncPost w) := by
 obtain ⟨w0, hw0, k1, k2, k3, hs0, hB0⟩ := alloc3 w (.cells #[.int .i64 1, .int .i64 1, .slice (some ⟨g, 0, none⟩) 4 cap] 36) (.cells #[.int .i64 6] 3) (.cells #[.int .i64 255] 3);obtain ⟨ib, hib⟩ : ∃ x, w.heap.size = x := ⟨_, rfl⟩;have HIB := hd_ hib;have HB0 := hd_ hB0;have HW0 := hd_ hw0;have HT := hd_ ht;rw [hib] at k1 k2 k3 hs0;have K1 := hd_ k1;have K2 := hd_ k2;have K3 := hd_ k3;have HS0 := hd_ hs0;have CG := hd_ (grid_any 1 1 (some ⟨g, 0, none⟩) 4 cap _ w0 (h.below hB0) ⟨by omega, by omega, by omega, by omega, by omega, by omega⟩ 1 rfl);rw [show cols [65535, 0, 0, 65535] 1 = [⟨65535, 0, 0, 65535⟩] from rfl] at CG;clear h ht hw0 hB0 hs0 hib;refine (callsIn_wide (n := 6)).1 (callsIn_of_wp_marks Tryz.func17 rfl trivial ?_ rfl);simp only [Tryz.ntmps17, List.size_toArray, List.length_cons, List.length_nil, Nat.reduceAdd, Nat.reduceSub, Array.replicate_succ, Array.replicate_zero, List.push_toArray, List.append_toArray, List.nil_append, List.cons_append];refine wpIn_wide.2 ?_;go_upto_region 1 with (fail)
 rw [<- HW0.out, HIB.out];have c1 := (cr_ w0 0 k2 (Value.int .i64 6) rfl);have c2 := (cr_ w0 0 k3 (Value.int .i64 255) rfl);clear k1 k2 k3;go_wp2_with (with_reducible refine wpList_load_row rfl 36 _ rfl ib rfl 36 _ (0, 0) _ K1.out Tryz.underlying36 rfl (imgSize3 _ _ _) ?_)
 refine CG.out.mono ?_;rintro e w1 ⟨gg, cb, cc, rfl, hga, hb1⟩;have HGA := hd_ hga;have HB1 := hd_ (HB0.out.trans (hb1.mono HB0.out.size));have d1 := keep_cell hb1 c1;have d2 := keep_cell hb1 c2;have L1 := hd_ ((hb1.block _ (block_lt K1.out)).trans K1.out);have D1 := hd_ d1;have D2 := hd_ d2;have P1 := hd_ ((hb1.block _ (block_lt K2.out)).trans K2.out);have P2 := hd_ ((hb1.block _ (block_lt K3.out)).trans K3.out);have hib3 : ib + 1 + 1 + 1 <= w1.heap.size := by have := hb1.size; have := HS0.out; omega
 have hs1 := hb1.size;clear hga hb1 c1 c2 CG K1 K2 K3;go_upto_region 7 with (fail)
 obtain ⟨w2, hw2⟩ : ∃ x, w1.alloc (.cells #[.slice none 0 0, .int .i64 0, .int .i8 0] 85) = x := ⟨_, rfl⟩;have ib2 : Lib.IsBuffer 85 5 w1.heap.size w1.heap.size [] w2 := by rw [<- hw2]; exact Lib.fresh_isBuffer _ _ w1
 have b12 : Below w1.heap.size w1 w2 := by rw [<- hw2]; exact (Below.refl _ w1).alloc (Nat.le_refl _) _
 obtain ⟨bb, hbb⟩ : ∃ x, w1.heap.size = x := ⟨_, rfl⟩;have hs2 : w2.heap.size = bb + 1 := by rw [<- hw2, World.size_alloc, hbb]
 rw [hw2, hbb];rw [hbb] at ib2 b12;have hL2 := (b12.block _ (by rw [<- hbb]; exact block_lt L1.out)).trans L1.out;have L2 := hd_ hL2;have IB2 := hd_ ib2;have B12 := hd_ b12;have BBE := hd_ hbb;rw [hbb] at hib3;have HIB3 := hd_ hib3;have e1 := keep_cell (B12.out.mono (Nat.le_of_eq BBE.out)) D1.out;have e2 := keep_cell (B12.out.mono (Nat.le_of_eq BBE.out)) D2.out;have E1 := hd_ e1;have E2 := hd_ e2;have HS2 := hd_ hs2;clear hib3 d1 d2 hw2 ib2 b12 hs1 hbb L1 hL2;have y1 := cell_regrown e1;have y2 := cell_regrown ((cr_ w2 0 L2.out (Value.int .i64 1) rfl));have y3 := cell_regrown ((cr_ w2 1 L2.out (Value.int .i64 1) rfl));clear e1 e2;have C6 := hd_ (fun d os => lit.itoa_grown 6 (by omega) w2 d os);have C1 := hd_ (fun d os => lit.itoa_grown 1 (by omega) w2 d os);rw [show (Lib.decDigits 6).toArray = #[54] from by decide +kernel] at C6;rw [show (Lib.decDigits 1).toArray = #[49] from by decide +kernel] at C1;refine wp_region_quiet_tail 14 (by kernel_rfl) (by kernel_rfl) ?_;simp only [List.take_succ_cons, List.take_zero, List.drop_succ_cons, List.drop_zero]
 go_big_quiet_step (fail)
 go_big_quiet_step (exact C6.out _ _)
 go_big_quiet_step (fail)
 go_big_quiet_step (fail)
 go_big_quiet_step (fail)
 go_big_quiet_step (fail)
 go_big_quiet_step (exact C1.out _ _)
 go_big_quiet_step (fail)
 go_big_quiet_step (fail)
 go_big_quiet_step (fail)
 go_big_quiet_step (fail)
 go_big_quiet_step (exact C1.out _ _)
 go_big_quiet_step (fail)
 go_big_quiet_step (fail)
 refine wpQuiet_nil ?_;intro _ hw';obtain ⟨⟨dq, osq⟩, hw''⟩ := hw';subst hw'';have hb := below_regrown w2 dq osq;clear y1 y2 y3;generalize grow (redrawn w2 dq) osq = w3 at *;have IB3 := hd_ (IB2.out.old hb);have L3 := hd_ ((hb.block _ (block_lt L2.out)).trans L2.out);have HBB3 : bb <= w3.heap.size := by have := hb.size; have := HS2.out; omega
 have BB3 := hd_ (B12.out.trans (hb.mono (by have := HS2.out; omega)));have W1 := hd_ (lit.wstrK bb bb [] (ByteArray.mk #[80] ++ ByteArray.mk #[54] ++ ByteArray.mk #[10] ++ ByteArray.mk #[49] ++ ByteArray.mk #[32] ++ ByteArray.mk #[49] ++ ByteArray.mk #[10]) w3 IB3.out HBB3 (fun v hv => by cases hv) (by decide +kernel));clear hb E1 E2 IB2 IB3 L2 L3 C6 C1 B12 HBB3;go_wp2_with fail
 refine W1.out.mono ?_;rintro e w4 ⟨rfl, hi4, hb4, _⟩;rw [List.nil_append, show (ByteArray.mk #[80] ++ ByteArray.mk #[54] ++ ByteArray.mk #[10] ++ ByteArray.mk #[49] ++ ByteArray.mk #[32] ++ ByteArray.mk #[49] ++ ByteArray.mk #[10]).data.toList = [80, 54, 10, 49, 32, 49, 10] from by decide +kernel] at hi4;have IB4 : Hid (Lib.IsBuffer 85 5 bb bb ((lit.file.take 7).map (Value.int .u8)) w4) := hd_ hi4;have hb4' := BB3.out.trans hb4;have BB4 := hd_ hb4';have x1 := keep_cell (hb4'.mono (Nat.le_of_eq BBE.out)) D1.out;have x2 := keep_cell (hb4'.mono (Nat.le_of_eq BBE.out)) D2.out;have s4 : bb <= w4.heap.size := by have := hb4'.size; have := BBE.out; omega
 clear hi4 hb4 hb4' W1 BB3;have hrm : ((6 : Int).tmod 3 == 1) = false := by decide
 go_wp2_with fail
 have hib4 : w.heap.size <= bb := by have h0 := HB1.out.size; have := BBE.out; omega
 refine (lit.itoa 255 (by omega) (by omega) w4 (HT.out.below (HB1.out.trans (BB4.out.mono hib4)))).mono ?_;rintro e w5 ⟨rfl, kq, osq2, rfl⟩;have hb5 : Below w4.heap.size w4 (grow (w4.drewN kq) osq2) := below_regrown w4 (w4.drawn + kq) osq2;generalize grow (w4.drewN kq) osq2 = w5 at *;rw [show (Lib.itoa 255).toArray = #[50, 53, 53] from by decide +kernel];have IB5 := hd_ (IB4.out.old hb5);have BB5 := hd_ (BB4.out.trans (hb5.mono s4));have s5 : bb <= w5.heap.size := Nat.le_trans s4 hb5.size;have W2 := hd_ (lit.wstrK bb bb ((lit.file.take 7).map (Value.int .u8)) (ByteArray.mk #[50, 53, 53] ++ ByteArray.mk #[10]) w5 IB5.out s5 (ints_oneCell _ _) (by decide +kernel));clear hb5 IB4 BB4 s4 x1 x2 hrm;go_wp2_with fail
 refine W2.out.mono ?_;rintro e w6 ⟨rfl, hi6, hb6, _⟩;rw [show (ByteArray.mk #[50, 53, 53] ++ ByteArray.mk #[10]).data.toList = [50, 53, 53, 10] from by decide +kernel] at hi6;have IB6 : Hid (Lib.IsBuffer 85 5 bb bb ((lit.file.take 11).map (Value.int .u8)) w6) := hd_ hi6;have hb6' := BB5.out.trans hb6;have BB6 := hd_ hb6';have s6 : bb <= w6.heap.size := by have := hb6'.size; have := BBE.out; omega
 clear hi6 hb6 W2 IB5 BB5 s5;go_wp2_with fail
 refine (rowsOf_any gg w6).mono ?_;rintro e w7 ⟨rfl, hw7⟩;obtain ⟨bx, hbx⟩ : ∃ x, w6.heap.size = x := ⟨_, rfl⟩;rw [hbx];have k7 : w7.heap[bx]? = some (.cells #[.pointer (some ⟨gg, 0, none⟩)] 79 (0, 0)) := by rw [<- hw7, <- hbx]; exact heap_alloc_new _ _
 have b67 : Below w6.heap.size w6 w7 := by rw [<- hw7]; exact (Below.refl _ _).alloc (Nat.le_refl _) _
 have IB7 := hd_ (IB6.out.old b67);have hb7 := hb6'.trans (b67.mono s6);have BB7 := hd_ hb7;have K7 := hd_ k7;have GA7 := hd_ (HGA.out.below (hb7.mono (Nat.le_of_eq BBE.out)));have s7 : w7.heap.size = bx + 1 := by rw [<- hw7, World.size_alloc, hbx]
 have S7 := hd_ s7;have E1 := hd_ ((hb7.mono (Nat.le_of_eq BBE.out)).block _ (block_lt HGA.out.head));clear hw7 k7 b67 IB6 BB6 hb6' hb7 s7 hbx;go_wp2_with fail
 have hI0 : lit.RowI w1 ib bb [] w7 := ⟨by rw [if_pos rfl, List.append_nil]; exact IB7.out, (BB7.out.block _ (by have := HIB3.out; omega)).trans P1.out, (BB7.out.block _ (by have := HIB3.out; omega)).trans P2.out, BB7.out.mono (by have := HIB3.out; omega)⟩;have HI0 := hd_ hI0;have hbb7 : bb <= w7.heap.size := by have := BB7.out.size; have := BBE.out; omega
 have hib7 : ib < bb := by have := HIB3.out; omega
 clear hI0 IB7;refine (wpIn_wide (n := 6)).1 ?_;show Code.wpIn _ _ _ _ _ ?a _;refine wpIn_rangeFunc_curN (α := lit.Rw) lit.rowEnc (fun x => lit.setRow ?a x) rfl (by omega) (gf := 86) (lb := #[.pointer (some ⟨bx, 0, none⟩)]) rfl trivial (enters_of Tryz.func86 (by kernel_rfl) rfl)
  (rows1_seq 5 bx gg cb cc _ _ ib w7 K7.out GA7.out) (by omega) (fun _ _ => trivial) (fun _ _ _ _ _ _ _ => trivial) lit.rowNx_put (fun _ _ _ _ _ h _ _ _ => h) (fun _ => rfl)
  (fun pre W => lit.RowI w1 ib bb pre W) (lit.RowI.abides hib7 BBE.out hbb7) HI0.out ?assign ?body ?done
 case assign =>
  intro lr x W1 K hK;have e : ∀ t : Array Value, ((#[62, 63] : Array Tmp).zip (lit.rowEnc x)).foldl (fun t (p, v) => t.setIfInBounds p v) t = (t.setIfInBounds 62 (.int .i64 0)).setIfInBounds 63 (.slice (some ⟨x.1, 0, none⟩) 1 x.2) := fun t => by simp [lit.rowEnc]
  rw [e];unfold lit.setRow at hK;simp only [List.setIfInBounds_toArray, List.set_cons_succ, List.set_cons_zero] at hK ⊢;gi_wp2
  exact hK
 case body =>
  rintro lr pre x W1 hI ⟨rfl, hoc⟩;obtain ⟨xb, xc⟩ := x;obtain ⟨_, _, ee, hcc1, hq2, hrd, hq3⟩ := hoc.rd;clear hq2 hq3 hoc;simp only [Value.slice.injEq] at ee;obtain ⟨rfl, hq1, rfl⟩ := ee;clear hq1;have hcc3 : ¬ xc = 0 := by have : 1 <= xc := hcc1; omega
  rcases hrd with h | ⟨_, _, ee, hcell⟩
  ·cases h
  cases ee;obtain ⟨z0, z1, z2, z3⟩ := hcell 0 (by decide);simp only [Nat.zero_mul, Nat.zero_add, List.getD_cons_zero] at z0 z1 z2 z3;have c1 := (cr_ W1 0 hI.p1 (Value.int .i64 6) rfl);have c2 := (cr_ W1 0 hI.p2 (Value.int .i64 255) rfl);have HI := hd_ hI;unfold lit.setRow;simp only [List.setIfInBounds_toArray, List.set_cons_succ, List.set_cons_zero];clear hcell hcc1 hI;gi_wp2
  refine wpIn_loop_rounds 2 ?_;rw [roundsIn_succ];gi_upto_region 15 with (fail)
  refine round_region (by rintro ⟨_, _, h⟩; exact h) (by kernel_rfl) ?_;go_wp2_with fail
  obtain ⟨W3, hW3⟩ : ∃ x, W1.alloc (.cells #[.int .u16 65535, .int .u16 0, .int .u16 0, .int .u16 65535] 41) = x := ⟨_, rfl⟩;have hn3 : W3.heap[W1.heap.size]? = some (.cells #[.int .u16 65535, .int .u16 0, .int .u16 0, .int .u16 65535] 41 (0, 0)) := by rw [<- hW3]; exact heap_alloc_new _ _
  have HN3 := hd_ hn3;have b3 : Below W1.heap.size W1 W3 := by rw [<- hW3]; exact (Below.refl _ _).alloc (Nat.le_refl _) _
  have B3 := hd_ b3;rw [hW3];clear hn3 b3 hW3;have e1 := keep_cell B3.out c1;have e2 := keep_cell B3.out c2;clear z0 z1 z2 z3;gi_upto_region 16 with (fail)
  refine round_region (by rintro ⟨_, _, h⟩; exact h) (by kernel_rfl) ?_;go_wp2_with (with_reducible refine wpList_load_row rfl 41 _ rfl W1.heap.size rfl 41 _ (0, 0) _ HN3.out Tryz.underlying41 rfl (colSize4 _ _ _ _) ?_)
  refine (samples_red W3).mono ?_;rintro e W4 ⟨sb, rfl, hsb, hsl, b4⟩;have hbb1 : bb <= W1.heap.size := by
   obtain ⟨_, v, lr, hb, _⟩ := HI.out.buf;exact Nat.le_of_lt (block_lt hb)
  have B4 := hd_ (B3.out.trans (b4.mono B3.out.size));have HSB := hd_ (lit.news_block hsb);have f1 := keep_cell (b4.mono (Nat.le_refl _)) e1;have f2 := keep_cell (b4.mono (Nat.le_refl _)) e2;have HBB1 := hd_ hbb1;obtain ⟨i0, hi, hz0, hz1, hz2⟩ := info_parts infoInt;clear e1 e2 hsb hsl b4 HN3 B3 hbb1;go_wp2_with (at_builtin; go_must (refine wpList_append_own _ rfl (.tmp 70) (.tmp 74) 59 rfl W4.heap.size 3 i0 (.int .i64 0) 1 8 Tryz.underlying59 hi hz0 hz1 hz2 rfl (by decide) (.slice none 0 0) 0 [] rfl (World.ownsRow_nil _ _ _ _) ⟨sb, 0, none⟩ 3 3 [.int .i64 255, .int .i64 0, .int .i64 0] rfl rfl HSB.out (ints_oneCell .i64 [255, 0, 0]) (by unfold maxLen; omega) (by omega) (Nat.le_refl _) ?_; intro v' W5 hown hg hnil; have Hown' := hd_ hown; have Hgr := hd_ hg; clear hown hg hnil))
  rcases Hown'.out.2 with ⟨_, h⟩ | ⟨lb, lc, cur, rfl, hlb, hh, hle, _, _, htk⟩
  ·cases h
  have b5 : Below W1.heap.size W1 W5 := B4.out.trans ((⟨Hgr.out.os, Hgr.out.tape, Hgr.out.output, Hgr.out.size, fun k hk => Hgr.out.block k hk (fun e => by cases e)⟩ : Below W4.heap.size W4 W5).mono B4.out.size);have B5 := hd_ b5;have g1 := keep_cell b5 c1;have g2 := keep_cell b5 c2;have HCS := hd_ (lit.take_red htk);have HH5 := hd_ hh;have HLE := hd_ (show 3 <= lc from hle);clear f1 f2 B4 HSB b5 hh hle htk Hown' Hgr hlb;gi_wp2
  rw [roundsIn_succ];gi_wp2
  refine round_call ?_;have hbuf := HI.out.buf;rw [if_pos rfl, List.append_nil] at hbuf;have LI := hd_ (line_red bb bb lb lc _ cur W5 (hbuf.old B5.out) (Nat.le_trans HBB1.out B5.out.size) (ints_oneCell _ _) (by decide +kernel) HH5.out HCS.out HLE.out);clear hbuf g1 g2 HCS HH5 HLE hi hz0 hz1 hz2;refine LI.out.mono ?_;rintro e W6 ⟨rfl, hi6, hb6, ho6⟩;have HI6 := hd_ hi6;have HB6 := hd_ hb6;have HO6 := hd_ ho6;clear hi6 hb6 ho6 LI;gi_wp2
  have hsm := HBB1.out;have hib3 := HIB3.out;refine ⟨⟨Nat.le_trans B5.out.size HB6.out.size, fun k o hk ho => HO6.out k o ((B5.out.block k (block_lt hk)).trans hk) ?_ ?_⟩, trivial, ?_⟩
  ·intro e
   cases Option.some.inj e;obtain ⟨_, v, lr, hb, _⟩ := HI.out.buf;rw [hb] at hk;cases hk;cases ho
  ·rintro c fz rfl
   cases ho
  ·refine ⟨by rw [if_neg (by simp)]; exact HI6.out, ?_, ?_, ?_⟩
   ·exact (HB6.out.block _ (by omega)).trans ((B5.out.block _ (by omega)).trans HI.out.p1)
   ·exact (HB6.out.block _ (by omega)).trans ((B5.out.block _ (by omega)).trans HI.out.p2)
   ·exact HI.out.low.trans ((B5.out.mono (by omega)).trans (HB6.out.mono (by omega)))
 case done =>
  rintro D ys W1 hD hE hI hK;have hys : ys ≠ [] := by rintro rfl; cases hE
  have hbuf := hI.buf;rw [if_neg hys] at hbuf;have HBUF : Hid (Lib.IsBuffer 85 5 bb bb (lit.file.map (Value.int .u8)) W1) := hd_ hbuf;have HLOW := hd_ hI.low;have HK := hd_ hK;clear hbuf hys hI hE hK;go_wp2_with fail
  refine (lit.wbytes bb bb _ W1 HBUF.out).mono ?_;rintro e W9 ⟨v9, rfl, hown, nn, rfl⟩;have HOWN := hd_ hown;have hK9 : (W1.drewN nn).heap[D]? = some (.deferred (some [])) := HK.out;have hlow : Below ib w1 (W1.drewN nn) := HLOW.out.trans (below_drewN (Below.refl _ _) nn);have HLW := hd_ hlow;generalize W1.drewN nn = W9 at *;have HK9 := hd_ hK9;have hS7 := S7.out;clear hown hlow hK9;go_wp2_with fail
  refine ⟨by simp, .inl ⟨_, _, rfl, run_takeDeferred HK9.out, ?_⟩⟩;have hg9 := grownBy_putObj' W9 D (.deferred none);have hr9 : ∀ r, some D = some r -> ∃ o : Obj, W9.heap[r]? = some o /\ o.isCells = false := fun r e => by cases e; exact ⟨_, HK9.out, rfl⟩
  have hDw : w.heap.size <= D := by have := HIB.out; omega
  have hpost : lit.EncPost w (.returned (.tuple #[v9, .int .i64 0])) (W9.putObj D (.deferred none)) := by
   refine ⟨v9, rfl, ?_, ?_⟩
   ·exact World.ownsRow.mono (own_row hg9 hr9 HOWN.out) (by have := HIB.out; omega)
   ·exact take_deferred_below hDw (Nat.le_refl _) (HB1.out.trans (by rw [HIB.out]; exact HLW.out)) _
  exact ⟨_, results_tmp2 (t := 6) (u := 7) rfl _ _ _, hpost⟩
end Go.Proofs.YthpckmcgbmfmcaaGreatDoor
