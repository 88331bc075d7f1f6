/- Texts of this claim, joined. -/
import Derived.Test.YthpckmcgbmfmcaaGreatDoorM2
import Derived.KernelRfl
import Derived.Deep.QuietTactic
set_option maxRecDepth 100000
set_option maxHeartbeats 12800000
namespace Go.Proofs.YthpckmcgbmfmcaaGreatDoor
open Go.RowKit Go.Shelf
attribute [local go_sem] Oper.semAt_some
theorem wchunk1_in (n l Bs Bn b off len cap step : Nat) (hs1 : 1 <= step) (hs2 : step <= 1099511627776) (hlc : len <= cap) (hcap : len <= 281474976710656)
  (J Jx : List (ChIx len step) -> World -> Prop) (hJd : ∀ pre W, J pre W -> J pre W.drew)
  (hY : ∀ pre x W, J pre W -> pre.length < chunks len step -> YieldAt Fence.wide (n - 1) Tryz.prog l #[chunkV b off len step x.1] W fun e W' =>
   (e = .returned (.bool true) /\ J (pre ++ [x]) W' /\ KeepsTwo Bs Bn W W') \/ (e = .returned (.bool false) /\ Jx (pre ++ [x]) W'))
  (W : World) (hBs : W.cell? ⟨Bs, 0, none⟩ = some (.slice (some ⟨b, off, none⟩) len cap)) (hBn : W.cell? ⟨Bn, 0, none⟩ = some (.int .i64 step)) (h0 : J [] W) :
  CallsIn Fence.wide n Tryz.prog 123 #[.func (.yield l) #[] #[], .pointer (some ⟨Bs, 0, none⟩), .pointer (some ⟨Bn, 0, none⟩)] W fun e W' => (∃ v, e = .returned v) /\
   ((∃ ys, (ys.length = chunks len step /\ chunkUp len step ys) /\ J ys W') \/ (∃ pre, (pre.length <= chunks len step /\ chunkUp len step pre) /\ Jx pre W')) := by
 have hY' := hd_ hY;have HD := hd_ hJd;clear hJd;have H0 := hd_ h0;have HBs := hd_ hBs;have HBn := hd_ hBn;clear hY h0 hBs hBn;refine callsIn_of_wp Tryz.func123 rfl trivial ?_ rfl;simp only [Tryz.ntmps123, List.size_toArray, List.length_cons, List.length_nil, Nat.reduceAdd, Nat.reduceSub, Array.replicate_succ, Array.replicate_zero, List.push_toArray, List.append_toArray, List.nil_append, List.cons_append];gi_wp2
 gi_loopw [4] (fun i wr => ∃ (k : Nat) (pre : List (ChIx len step)), i = .int .i64 (k * step : Nat) /\ pre.length = k /\ k <= chunks len step /\ chunkUp len step pre /\ J pre wr /\ KeepsTwo Bs Bn W wr)
  (fun i _ => len - (intOf i).toNat)
 case atStart => exact ⟨0, [], by simp, rfl, Nat.zero_le _, rfl, H0.out, rfl, rfl⟩
 case round =>
  obtain ⟨k, pre, rfl, hpk, hk, hup, hJs, hnx⟩ := hrel;have HUP := hd_ hup;have HPK := hd_ hpk;have HJ := hd_ hJs;have HB := hd_ hnx;clear hup hpk hJs hnx;have hcs : wr.cell? ⟨Bs, 0, none⟩ = some (.slice (some ⟨b, off, none⟩) len cap) := HB.out.cell1.trans HBs.out;have hcn : wr.cell? ⟨Bn, 0, none⟩ = some (.int .i64 step) := HB.out.cell2.trans HBn.out;obtain ⟨m, hm⟩ : ∃ m, m = k * step := ⟨_, rfl⟩;rw [<- hm];have HM := hd_ hm;clear hm;by_cases hlt : m < len
  ·have hkc : k < chunks len step := chunks_lt hs1 (by rw [<- HM.out]; exact hlt)
   obtain ⟨fn, tmps, assign, body, hy, hR⟩ := hY'.out pre ⟨k, hkc⟩ wr.drew (HD.out _ _ HJ.out) (by rw [HPK.out]; exact hkc);obtain ⟨c, hc⟩ : ∃ c : Nat, c = min step (len - m) := ⟨_, rfl⟩;have hc1 : c <= len - m := (by omega);have hc2 : c <= step := (by omega);have hc3 : 1 <= c := (by omega);have hc4 : k * step + step <= len -> c = step := (by rw [<- HM.out]; omega);have HC4 := hd_ hc4;clear hc4;have hci : ((if len - m < step then ((len - m : Nat) : Int) else (step : Int)) : Int) = (c : Int) := (by split <;> omega);have hv : chunkV b off len step k = .slice (some ⟨b, off + m, none⟩) c c := (by unfold chunkV; rw [<- HM.out, <- hc]);have hy' : (Instr.yield l #[.slice (some ⟨b, off + m, none⟩) c c]).run Tryz.prog wr.drew = .ok (.round l fn tmps assign body) wr.drew := (by rw [<- hv]; exact hy);have HR := hd_ hR;have HV := hd_ hv;have HY := hd_ hy';have HC := hd_ hci;clear hR hy hy' hv hc hci;gi_wp2
   refine wpIn_wide.2 ?_;go_region
   rw [HC.out];have hcs' : wr.drew.cell? ⟨Bs, 0, none⟩ = some (.slice (some ⟨b, off, none⟩) len cap) := hcs;have hcn' : wr.drew.cell? ⟨Bn, 0, none⟩ = some (.int .i64 step) := hcn;have HB2 : Hid (KeepsTwo Bs Bn W wr.drew) := hd_ HB.out;generalize wr.drew = wd at *;clear hcs hcn;have e2 : IntKind.i64.wrap ((m : Int) + (c : Int)) = ((m + c : Nat) : Int) := i64i (by omega);have e3 : ((m + c : Nat) : Int) - (m : Int) = (c : Int) := (by omega);have e4 : ¬ (m + c = m) := (by omega);have e5 : ¬ (c = 0) := (by omega);have hy := HY.out;gi_wp2
   refine ⟨fun h => by simp [Fence.wide] at h, ?_⟩;refine HR.out.mono ?_;rintro e W3 (⟨rfl, hJ3, hk3⟩ | ⟨rfl, hJx3⟩)
   ·have hJ4 := hd_ hJ3
    have hB4 := hd_ (HB2.out.trans hk3);have hcn3 : W3.cell? ⟨Bn, 0, none⟩ = some (.int .i64 step) := hk3.cell2.trans hcn';clear hJ3 hk3 hcs' hcn' hy e2 e3 e4 e5;have e6 : IntKind.i64.wrap ((m : Int) + (step : Int)) = ((m + step : Nat) : Int) := i64i (by omega);gi_wp2
    go_roundw
    case rel => exact ⟨k + 1, _, congrArg (Value.int .i64) (by rw [HM.out, Nat.succ_mul]; omega), by rw [List.length_append, HPK.out]; rfl, hkc, chunkUp_snoc HUP.out _ HPK.out.symm, hJ4.out, hB4.out⟩
    case measure => simp [intOf]; omega
   ·gi_wp2
    refine bodyPost_ret (results_none rfl _ _ _) rfl ?_;exact ⟨⟨_, rfl⟩, .inr ⟨_, ⟨by rw [List.length_append, HPK.out]; exact hkc, chunkUp_snoc HUP.out _ HPK.out.symm⟩, hJx3⟩⟩
  ·have hkc : k = chunks len step := Nat.le_antisymm hk (chunks_le hs1 (by rw [<- HM.out]; omega))
   have HK := hd_ hkc;clear hkc;gi_wp2
   go_end0
   exact ⟨⟨_, rfl⟩, .inl ⟨pre, ⟨by rw [HPK.out, HK.out], HUP.out⟩, HJ.out⟩⟩
theorem wchunk1_nil_in {step : Nat} (n l Bs Bn cap : Nat) (p : Option Addr) (J : List (ChIx 0 step) -> World -> Prop) (W : World) (hBs : W.cell? ⟨Bs, 0, none⟩ = some (.slice p 0 cap)) (h0 : J [] W) :
  CallsIn Fence.wide n Tryz.prog 123 #[.func (.yield l) #[] #[], .pointer (some ⟨Bs, 0, none⟩), .pointer (some ⟨Bn, 0, none⟩)] W fun e W' => (∃ v, e = .returned v) /\ J [] W' := by
 refine callsIn_of_wp Tryz.func123 rfl trivial ?_ rfl;simp only [Tryz.ntmps123, List.size_toArray, List.length_cons, List.length_nil, Nat.reduceAdd, Nat.reduceSub, Array.replicate_succ, Array.replicate_zero, List.push_toArray, List.append_toArray, List.nil_append, List.cons_append];gi_wp2
 gi_loopw [4] (fun i wr => i = .int .i64 0 /\ J [] wr /\ wr.cell? ⟨Bs, 0, none⟩ = some (.slice p 0 cap)) (fun _ _ => 0)
 case atStart => exact ⟨rfl, h0, hBs⟩
 case round =>
  obtain ⟨rfl, hJs, hc⟩ := hrel;gi_wp2
  go_end0
  exact ⟨⟨_, rfl⟩, hJs⟩
theorem wchunk_any (a : Option Addr) (len cap step : Nat) (hs1 : 1 <= step) (w : World) :
  Calls Tryz.prog 80 #[.slice a len cap, .int .i64 step] w fun e w' => e = .returned (.func (.func 123) #[] #[.pointer (some ⟨w.heap.size, 0, none⟩), .pointer (some ⟨w.heap.size + 1, 0, none⟩)]) /\ (w.alloc (.cells #[.slice a len cap] 34)).alloc (.cells #[.int .i64 step] 3) = w' := by
 go_enter Tryz.func80, Tryz.ntmps80
 go_wp2
 go_ret
 exact ⟨rfl, rfl⟩
theorem wchunk_stops (n Bs Bn : Nat) (p : Option Addr) (len cap step : Nat) (hs1 : 1 <= step) (hs2 : step <= 1099511627776) (hlc : len <= cap) (hcap : len <= 281474976710656) (w : World) (hBs0 : Bs < w.heap.size) (hBn0 : Bn < w.heap.size)
  (b off : Nat) (hp : len = 0 \/ p = some ⟨b, off, none⟩) (hBs : w.cell? ⟨Bs, 0, none⟩ = some (.slice p len cap)) (hBn : w.cell? ⟨Bn, 0, none⟩ = some (.int .i64 step)) :
  SeqStopsK Fence.wide n Tryz.prog 123 #[.pointer (some ⟨Bs, 0, none⟩), .pointer (some ⟨Bn, 0, none⟩)] (fun x : ChIx len step => #[chunkV b off len step x.1]) (KeepsTwo Bs Bn) (fun ys => ys.length = chunks len step /\ chunkUp len step ys) (fun pre => pre.length <= chunks len step /\ chunkUp len step pre) (chunks len step) w := fun l J Jx W hW hJ _ hY h0 => by
 have hBs' := (hW.cell (p := ⟨Bs, 0, none⟩) hBs0).trans hBs;have hBn' := (hW.cell (p := ⟨Bn, 0, none⟩) hBn0).trans hBn;rcases hp with rfl | rfl
 ·refine (wchunk1_nil_in n l Bs Bn cap p J W hBs' h0).mono fun e W' ⟨he, hj⟩ => ⟨he, .inl ⟨[], ⟨?_, rfl⟩, hj⟩⟩
  unfold chunks;rw [Nat.div_eq_of_lt (by omega)];rfl
 ·exact wchunk1_in n l Bs Bn b off len cap step hs1 hs2 hlc hcap J Jx (fun pre W1 h => hJ pre W1 _ none h (grownBy_drew _) (fun r e => by cases e)) hY W hBs' hBn' h0
end Go.Proofs.YthpckmcgbmfmcaaGreatDoor
namespace Go.Proofs.YthpckmcgbmfmcaaGreatDoor.tm
def upBad (v most : Int) : Prop := most < 1 \/ 65535 < most \/ v < 0 \/ most < v
instance (v most : Int) : Decidable (upBad v most) := by unfold upBad; exact inferInstance
def upV (v most : Int) : Int := if upBad v most then 0 else (65535 * v + most / 2) / most
def upE (v most : Int) : Int := if upBad v most then 2 else 0
def downBad (most : Int) : Prop := most < 1 \/ 65535 < most
instance (most : Int) : Decidable (downBad most) := by unfold downBad; exact inferInstance
def downV (v most : Int) : Int := if downBad most then 0 else (v * most + 32767) / 65535
def downE (most : Int) : Int := if downBad most then 2 else 0
def clampTo (v top : Int) : Int := if v < 0 then 0 else if top < v then top else v
def far (r g b r' g' b' : Int) : Int := (r - r') * (r - r') + (g - g') * (g - g') + (b - b') * (b - b')
def cb (r g b : Int) : Int := clampTo ((-11058 * clampTo r 255 + -21710 * clampTo g 255 + 32768 * clampTo b 255 + 8421376) / 65536) 255
def cr (r g b : Int) : Int := clampTo ((32768 * clampTo r 255 + -27439 * clampTo g 255 + -5329 * clampTo b 255 + 8421376) / 65536) 255
def gg (y u v : Int) : Int := clampTo (clampTo y 255 - (22554 * (clampTo u 255 - 128) + 46802 * (clampTo v 255 - 128) + 32768) / 65536) 255
def bb (y u _v : Int) : Int := clampTo (clampTo y 255 + (116130 * (clampTo u 255 - 128) + 32768) / 65536) 255
theorem upV_range (v most : Int) : 0 <= upV v most /\ upV v most <= 65535 := by
 unfold upV;split
 ·omega
 ·rename_i h
  simp only [upBad, not_or] at h;obtain ⟨h1, h2, h3, h4⟩ := h;constructor
  ·exact Int.ediv_nonneg (by omega) (by omega)
  ·apply Int.le_of_lt_add_one
   apply Int.ediv_lt_of_lt_mul (by omega)
   have : 65535 * v <= 65535 * most := (by omega);omega
end Go.Proofs.YthpckmcgbmfmcaaGreatDoor.tm
namespace Go.Proofs.YthpckmcgbmfmcaaGreatDoor
open Go.RowKit
theorem up_any (v most : Int) (w : World) :
  Calls Tryz.prog 48 #[.int .i64 v, .int .i64 most] w fun e w' => e = .returned (.tuple #[.int .u16 (tm.upV v most), .int .i64 (tm.upE v most)]) /\ w = w' := by
 by_cases hb : tm.upBad v most
 ·have HV : Hid (tm.upV v most = 0) := hd_ (if_pos hb)
  have HE : Hid (tm.upE v most = 2) := hd_ (if_pos hb);rw [HV.out, HE.out];have hc : most < 1 \/ (1 <= most /\ 65535 < most) \/ (1 <= most /\ most <= 65535 /\ v < 0) \/ (1 <= most /\ most <= 65535 /\ 0 <= v /\ most < v) := by
   unfold tm.upBad at hb; omega
  clear hb;rcases hc with h | ⟨h1, h⟩ | ⟨h1, h2, h⟩ | ⟨h1, h2, h3, h⟩
  all_goals
   go_enter Tryz.func48, Tryz.ntmps48
   go_wp2
   go_ret2
   exact ⟨rfl, rfl⟩
 ·have HV : Hid (tm.upV v most = (65535 * v + most / 2) / most) := hd_ (if_neg hb)
  have HE : Hid (tm.upE v most = 0) := hd_ (if_neg hb);have hr := tm.upV_range v most;rw [HV.out] at hr;rw [HV.out, HE.out];simp only [tm.upBad, not_or] at hb;obtain ⟨h1, h2, h3, h4⟩ := hb;go_enter Tryz.func48, Tryz.ntmps48
  go_wp2
  go_ret2
  exact ⟨rfl, rfl⟩
theorem down_any (v most : Int) (w : World) (hv : 0 <= v /\ v <= 65535) :
  Calls Tryz.prog 90 #[.int .u16 v, .int .i64 most] w fun e w' => e = .returned (.tuple #[.int .i64 (tm.downV v most), .int .i64 (tm.downE most)]) /\ w = w' := by
 by_cases hb : tm.downBad most
 ·have HV : Hid (tm.downV v most = 0) := hd_ (if_pos hb)
  have HE : Hid (tm.downE most = 2) := hd_ (if_pos hb);rw [HV.out, HE.out];have hc : most < 1 \/ (1 <= most /\ 65535 < most) := by
   unfold tm.downBad at hb; omega
  clear hb;rcases hc with h | ⟨h1, h⟩
  all_goals
   go_enter Tryz.func90, Tryz.ntmps90
   go_wp2
   go_ret2
   exact ⟨rfl, rfl⟩
 ·have HV : Hid (tm.downV v most = (v * most + 32767) / 65535) := hd_ (if_neg hb)
  have HE : Hid (tm.downE most = 0) := hd_ (if_neg hb);rw [HV.out, HE.out];simp only [tm.downBad, not_or] at hb;obtain ⟨h1, h2⟩ := hb;have hm0 : 0 <= v * most := Int.mul_nonneg (by omega) (by omega);have hm1 : v * most <= 65535 * 65535 := Int.mul_le_mul (by omega) (by omega) (by omega) (by omega);go_enter Tryz.func90, Tryz.ntmps90
  go_wp2
  go_ret2
  exact ⟨rfl, rfl⟩
structure C4 where
 r : Int
 g : Int
 b : Int
 a : Int
def C4.ok (c : C4) : Prop := (0 <= c.r /\ c.r <= 65535) /\ (0 <= c.g /\ c.g <= 65535) /\ (0 <= c.b /\ c.b <= 65535) /\ (0 <= c.a /\ c.a <= 65535)
def C4.zero : C4 := ⟨0, 0, 0, 0⟩
def RdC (w : World) (a : Option Addr) (l : List C4) : Prop :=
 l = [] \/ ∃ b off, a = some ⟨b, off, none⟩ /\ ∀ i, i < l.length ->
  w.cell? ⟨b, off + i * 4, none⟩ = some (.int .u16 (l.getD i C4.zero).r) /\ w.cell? ⟨b, off + i * 4 + 1, none⟩ = some (.int .u16 (l.getD i C4.zero).g) /\
  w.cell? ⟨b, off + i * 4 + 2, none⟩ = some (.int .u16 (l.getD i C4.zero).b) /\ w.cell? ⟨b, off + i * 4 + 3, none⟩ = some (.int .u16 (l.getD i C4.zero).a)
def imgGood (W H : Int) (n : Nat) : Prop := 1 <= W /\ 1 <= H /\ W <= 4096 /\ H <= 4096 /\ W * H <= 65536 /\ (n : Int) = 4 * W * H
instance (W H : Int) (n : Nat) : Decidable (imgGood W H n) := by unfold imgGood; exact inferInstance
def goodB (W H : Int) (n : Nat) : Bool := decide (imgGood W H n)
def fitsB (W H : Int) : Bool := decide (1 <= W /\ 1 <= H /\ W <= 4096 /\ H <= 4096 /\ W * H <= 65536)
theorem goodB_true {W H : Int} {n : Nat} (h : imgGood W H n) : goodB W H n = true := decide_eq_true h
theorem goodB_false {W H : Int} {n : Nat} (h : ¬ imgGood W H n) : goodB W H n = false := decide_eq_false h
theorem fitsB_false {W H : Int} (h : ¬ (1 <= W /\ 1 <= H /\ W <= 4096 /\ H <= 4096 /\ W * H <= 65536)) : fitsB W H = false := decide_eq_false h
theorem sides_mul {W H : Int} (h1 : 1 <= W) (h2 : 1 <= H) (h3 : W <= 4096) (h4 : H <= 4096) : 1 <= W * H /\ W * H <= 16777216 /\ 4 * W * H = 4 * (W * H) := by
 refine ⟨?_, ?_, Int.mul_assoc _ _ _⟩
 ·have := Int.mul_le_mul h1 h2 (by omega) (by omega); omega
 ·have := Int.mul_le_mul h3 h4 (by omega) (by omega); omega
def pix (l : List Int) (k : Nat) : C4 := ⟨l.getD (4 * k) 0, l.getD (4 * k + 1) 0, l.getD (4 * k + 2) 0, l.getD (4 * k + 3) 0⟩
def C4.list (c : C4) : List Int := [c.r, c.g, c.b, c.a]
def u16s (l : List Int) : Prop := ∀ x ∈ l, 0 <= x /\ x <= 65535
theorem u16s.at {l : List Int} (h : u16s l) (i : Nat) : 0 <= l.getD i 0 /\ l.getD i 0 <= 65535 := by
 rcases Nat.lt_or_ge i l.length with hi | hi
 ·rw [List.getD_eq_getElem?_getD, List.getElem?_eq_getElem hi]
  exact h _ (List.getElem_mem hi)
 ·rw [List.getD_eq_getElem?_getD, List.getElem?_eq_none hi]
  simp
theorem u16s.pix {l : List Int} (h : u16s l) (k : Nat) : (pix l k).ok := ⟨h.at _, h.at _, h.at _, h.at _⟩
theorem good_any (W H : Int) (p : Option Addr) (n cap : Nat) (w : World) :
  Calls Tryz.prog 79 #[.agg #[.int .i64 W, .int .i64 H, .slice p n cap]] w fun e w' => e = .returned (.bool (goodB W H n)) /\ Below w.heap.size w w' := by
 by_cases h1 : 1 <= W /\ 1 <= H
 ·by_cases h2 : W <= 4096 /\ H <= 4096
  ·obtain ⟨m1, m2, m3⟩ := sides_mul h1.1 h1.2 h2.1 h2.2
   obtain ⟨q, hq⟩ : ∃ q, q = W * H := ⟨_, rfl⟩;have hg : Hid (goodB W H n = decide (q <= 65536 /\ (n : Int) = 4 * q)) := hd_ (by
    unfold goodB;refine decide_eq_decide.2 ?_;unfold imgGood;rw [m3, hq];exact ⟨fun h => ⟨h.2.2.2.2.1, h.2.2.2.2.2⟩, fun h => ⟨h1.1, h1.2, h2.1, h2.2, h.1, h.2⟩⟩)
   have e1 : IntKind.i64.wrap (W * H) = q := (by rw [hq]; exact i64i (by omega));have e2 : IntKind.i64.wrap (4 * W * H) = 4 * q := (by rw [m3, hq]; exact i64i (by omega));rw [<- hq] at m1 m2;clear m3 hq;obtain ⟨h1, h1'⟩ := h1;obtain ⟨h2, h2'⟩ := h2;by_cases h3 : q <= 65536
   ·by_cases h4 : (n : Int) = 4 * q
    ·have hv : Hid (goodB W H n = true) := hd_ (by rw [hg.out]; exact decide_eq_true ⟨h3, h4⟩)
     have h4' : ((n : Int) == 4 * q) = true := (by simpa using h4);go_enter Tryz.func79, Tryz.ntmps79
     go_wp2
     all_goals
      go_ret
      exact ⟨by rw [hv.out]; rfl, (Below.refl _ _).alloc (Nat.le_refl _) _⟩
    ·have hv : Hid (goodB W H n = false) := hd_ (by rw [hg.out]; exact decide_eq_false fun h => h4 h.2)
     have h4' : ((n : Int) == 4 * q) = false := (by simpa using h4);go_enter Tryz.func79, Tryz.ntmps79
     go_wp2
     all_goals
      go_ret
      exact ⟨by rw [hv.out]; rfl, (Below.refl _ _).alloc (Nat.le_refl _) _⟩
   ·have hv : Hid (goodB W H n = false) := hd_ (by rw [hg.out]; exact decide_eq_false fun h => h3 h.1)
    go_enter Tryz.func79, Tryz.ntmps79
    go_wp2
    all_goals
     go_ret
     exact ⟨by rw [hv.out]; rfl, (Below.refl _ _).alloc (Nat.le_refl _) _⟩
  ·have hv : Hid (goodB W H n = false) := hd_ (goodB_false fun h => h2 ⟨h.2.2.1, h.2.2.2.1⟩)
   obtain ⟨h1, h1'⟩ := h1;go_enter Tryz.func79, Tryz.ntmps79
   go_wp2
   all_goals
    go_ret
    exact ⟨by rw [hv.out]; rfl, (Below.refl _ _).alloc (Nat.le_refl _) _⟩
 ·have hv : Hid (goodB W H n = false) := hd_ (goodB_false fun h => h1 ⟨h.1, h.2.1⟩)
  go_enter Tryz.func79, Tryz.ntmps79
  go_wp2
  all_goals
   go_ret
   exact ⟨by rw [hv.out]; rfl, (Below.refl _ _).alloc (Nat.le_refl _) _⟩
theorem fits_any (W H : Int) (w : World) :
  Calls Tryz.prog 36 #[.int .i64 W, .int .i64 H] w fun e w' => e = .returned (.bool (fitsB W H)) /\ w = w' := by
 by_cases h1 : 1 <= W /\ 1 <= H
 ·by_cases h2 : W <= 4096 /\ H <= 4096
  ·obtain ⟨m1, m2, m3⟩ := sides_mul h1.1 h1.2 h2.1 h2.2
   obtain ⟨q, hq⟩ : ∃ q, q = W * H := ⟨_, rfl⟩;have hg : Hid (fitsB W H = decide (q <= 65536)) := hd_ (by
    unfold fitsB;refine decide_eq_decide.2 ?_;rw [hq];exact ⟨fun h => h.2.2.2.2, fun h => ⟨h1.1, h1.2, h2.1, h2.2, h⟩⟩)
   have e1 : IntKind.i64.wrap (W * H) = q := (by rw [hq]; exact i64i (by omega));rw [<- hq] at m1 m2;clear m3 hq;obtain ⟨h1, h1'⟩ := h1;obtain ⟨h2, h2'⟩ := h2;by_cases h3 : q <= 65536
   ·have hv : Hid (fitsB W H = true) := hd_ (by rw [hg.out]; exact decide_eq_true h3)
    go_enter Tryz.func36, Tryz.ntmps36
    go_wp2
    all_goals
     go_ret
     exact ⟨by rw [hv.out]; rfl, rfl⟩
   ·have hv : Hid (fitsB W H = false) := hd_ (by rw [hg.out]; exact decide_eq_false h3)
    go_enter Tryz.func36, Tryz.ntmps36
    go_wp2
    all_goals
     go_ret
     exact ⟨by rw [hv.out]; rfl, rfl⟩
  ·have hv : Hid (fitsB W H = false) := hd_ (fitsB_false fun h => h2 ⟨h.2.2.1, h.2.2.2.1⟩)
   obtain ⟨h1, h1'⟩ := h1;rcases (show 4096 < W \/ (W <= 4096 /\ 4096 < H) by omega) with h | ⟨h, h'⟩
   all_goals
    clear h2;go_enter Tryz.func36, Tryz.ntmps36
    go_wp2
    all_goals
     go_ret
     exact ⟨by rw [hv.out]; rfl, rfl⟩
 ·have hv : Hid (fitsB W H = false) := hd_ (fitsB_false fun h => h1 ⟨h.1, h.2.1⟩)
  rcases (show W < 1 \/ (1 <= W /\ H < 1) by omega) with h | ⟨h, h'⟩
  all_goals
   clear h1;go_enter Tryz.func36, Tryz.ntmps36
   go_wp2
   all_goals
    go_ret
    exact ⟨by rw [hv.out]; rfl, rfl⟩
theorem infoU16 : (Tryz.prog.info? 39).map (fun i => (i.zero, i.size, i.bytes)) = some (some (.int .u16 0), 1, 2) := by kernel_rfl
theorem imgSize : (Tryz.prog.info? 36).map (·.size) = some 3 := by kernel_rfl
theorem imgSz (a b c a' b' c' : Value) : (#[a, b, c] : Array Value).size = (#[a', b', c'] : Array Value).size := rfl
theorem imgSize3 (a b c : Value) : (Tryz.prog.info? 36).map (·.size) = some (#[a, b, c] : Array Value).size := imgSize
theorem imgOne (W H : Int) (p : Option Addr) (n cap : Nat) : (#[.int .i64 W, .int .i64 H, .slice p n cap] : Array Value).all (·.oneCell') = true := by simp [Value.oneCell']
end Go.Proofs.YthpckmcgbmfmcaaGreatDoor
namespace Go.Proofs.YthpckmcgbmfmcaaGreatDoor
open Go.RowKit Go.Sort
theorem high_any (i : Nat) (w : World) (hi : i <= 1125899906842624) : Calls Tryz.prog 131 #[.int .i64 (i : Nat)] w fun e w' => e = .returned (.int .u64 (bt.place true i : Nat)) /\ w = w' := by
 have h1 : ((bt.place true i : Nat) : Int) = 7 - (i : Int) % 8 := by unfold bt.place; simp; omega
 rw [h1];go_enter Tryz.func131, Tryz.ntmps131
 go_wp2
 go_ret
 exact ⟨rfl, rfl⟩
theorem low_any (i : Nat) (w : World) (hi : i <= 1125899906842624) : Calls Tryz.prog 132 #[.int .i64 (i : Nat)] w fun e w' => e = .returned (.int .u64 (bt.place false i : Nat)) /\ w = w' := by
 have h1 : ((bt.place false i : Nat) : Int) = (i : Int) % 8 := by unfold bt.place; simp
 rw [h1];go_enter Tryz.func132, Tryz.ntmps132
 go_wp2
 go_ret
 exact ⟨rfl, rfl⟩
def bt.pf (up : Bool) : FuncId := if up then 131 else 132
def bt.pv (up : Bool) : Value := .func (.func (bt.pf up)) #[] #[]
theorem order_any (up : Bool) (w : World) : Calls Tryz.prog 98 #[.bool up] w fun e w' => e = .returned (bt.pv up) /\ w = w' := by
 cases up
 ·go_enter Tryz.func98, Tryz.ntmps98
  go_wp2
  go_ret
  exact ⟨rfl, rfl⟩
 ·go_enter Tryz.func98, Tryz.ntmps98
  go_wp2
  go_ret
  exact ⟨rfl, rfl⟩
structure bt.Wr (base : Nat) (w : World) (g : Nat) (up : Bool) (L : List Bool) (v : Value) : Prop where
 lies : base <= g
 head : w.heap[g]? = some (.cells #[v, .int .i64 (L.length : Nat), .bool up, bt.pv up] 180 (0, 0))
 row : w.ownsRow base 5 1 v ((L.length + 7) / 8) ((bt.bytes up L).map (Value.int .u8))
theorem bt.Wr.below {base : Nat} {w w' : World} {g : Nat} {up : Bool} {L : List Bool} {v : Value} (h : bt.Wr base w g up L v) (hb : Below w.heap.size w w') : bt.Wr base w' g up L v :=
 ⟨h.lies, (hb.block _ (block_lt h.head)).trans h.head, ownsRow_below h.row hb⟩
theorem newWriter_any (up : Bool) (w : World) : Calls Tryz.prog 51 #[.bool up] w fun e w' => ∃ g, e = .returned (.pointer (some ⟨g, 0, none⟩)) /\ bt.Wr w.heap.size w' g up [] (.slice none 0 0) /\ Below w.heap.size w w' := by
 have HO := order_any up w;cases up
 ·change Calls Tryz.prog _ _ w fun e w' => e = .returned (.func (.func 132) #[] #[]) /\ w = w' at HO
  have HO := hd_ HO;go_enter Tryz.func51, Tryz.ntmps51
  go_wp2_with fail
  go_must (refine HO.out.mono ?_)
  rintro e w1 ⟨rfl, rfl⟩;go_wp2_with fail
  go_ret
  exact ⟨_, rfl, ⟨Nat.le_refl _, heap_alloc_new _ _, World.ownsRow_nil _ _ _ _⟩, (Below.refl _ _).alloc (Nat.le_refl _) _⟩
 ·change Calls Tryz.prog _ _ w fun e w' => e = .returned (.func (.func 131) #[] #[]) /\ w = w' at HO
  have HO := hd_ HO;go_enter Tryz.func51, Tryz.ntmps51
  go_wp2_with fail
  go_must (refine HO.out.mono ?_)
  rintro e w1 ⟨rfl, rfl⟩;go_wp2_with fail
  go_ret
  exact ⟨_, rfl, ⟨Nat.le_refl _, heap_alloc_new _ _, World.ownsRow_nil _ _ _ _⟩, (Below.refl _ _).alloc (Nat.le_refl _) _⟩
structure bt.Fr (base g : Nat) (w w' : World) : Prop where
 below : Below base w w'
 others : Lib.OthersKept 5 (some g) w w'
theorem bt.Fr.refl (base g : Nat) (w : World) : bt.Fr base g w w := ⟨Below.refl _ _, Lib.OthersKept.refl _ _ _⟩
theorem bt.Fr.trans {base g : Nat} {a b c : World} (h : bt.Fr base g a b) (k : bt.Fr base g b c) : bt.Fr base g a c := ⟨h.below.trans k.below, h.others.trans k.others⟩
theorem bt.fr_grown {base g m : Nat} {w w' : World} {xs : List Value} {v : Value} (h : w.ownsRow base 5 1 v m xs) (hb : base <= w.heap.size) (k : w.grownBy w' v.ownBlock) : bt.Fr base g w w' := by
 refine ⟨(Below.refl _ _).grown k hb ?_, (Lib.OthersKept.refl _ _ _).grown k ?_⟩
 ·rcases h.2 with ⟨rfl, _⟩ | ⟨g', cap, cur, rfl, h1, _⟩
  ·intro k e
   cases e
  ·intro k e
   cases e;exact h1
 ·rcases h.2 with ⟨rfl, _⟩ | ⟨g', cap, cur, rfl, _, h2, _⟩
  ·intro k e
   cases e
  ·intro k e
   cases e;exact ⟨_, _, h2⟩
theorem bt.Wr.fr_grown {base g : Nat} {w w' : World} {up : Bool} {L : List Bool} {v : Value} (h : bt.Wr base w g up L v) (hb : base <= w.heap.size) (k : w.grownBy w' v.ownBlock) : bt.Fr base g w w' := bt.fr_grown h.row hb k
theorem bt.Fr.setCell {base g : Nat} {a w : World} (h : bt.Fr base g a w) (hg : base <= g) (p : Addr) (hp : p.block = g) (v : Value) : bt.Fr base g a (w.setCell p v) :=
 ⟨h.below.setCell (by rw [hp]; exact hg) v, h.others.setCell p hp v⟩
end Go.Proofs.YthpckmcgbmfmcaaGreatDoor
