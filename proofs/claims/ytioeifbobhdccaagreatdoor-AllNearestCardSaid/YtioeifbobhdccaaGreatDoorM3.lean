/- slices.Chunk: its contract as an iterator. -/
import Derived.Test.YtioeifbobhdccaaGreatDoorM2
import Derived.RangeFuncNested
import Derived.RangeFuncBound
import Derived.RangeFuncCalls
import Derived.RangeFuncLeaves
import Derived.Shelf.Abstract
import Derived.OwnWalkIn
import Derived.TacticsInMore
import Derived.LoopNIn
import Derived.LoopIn
import Derived.RangeFuncBox
namespace Go.Proofs.YtioeifbobhdccaaGreatDoor
open Go.RowKit Go.Shelf

/-- the k-th chunk -/
def chunkV (b off len step k : Nat) : Value := .slice (some ⟨b, off + k * step, none⟩) (min step (len - k * step)) (min step (len - k * step))
/-- how many -/
def chunks (len step : Nat) : Nat := (len + step - 1) / step
theorem chunks_lt {len step k : Nat} (hs : 1 ≤ step) (h : k * step < len) : k < chunks len step := by
  unfold chunks
  refine (Nat.le_div_iff_mul_le hs).2 ?_
  rw [Nat.succ_mul]
  omega
theorem chunks_le {len step k : Nat} (hs : 1 ≤ step) (h : len ≤ k * step) : chunks len step ≤ k := by
  unfold chunks
  refine Nat.le_of_lt_succ ((Nat.div_lt_iff_lt_mul hs).2 ?_)
  rw [Nat.succ_mul]
  omega
theorem chunks_in {len step k : Nat} (h : k < chunks len step) : k * step < len := by
  unfold chunks at h
  rcases Nat.eq_zero_or_pos step with h0 | h0
  · subst h0; simp at h
  · have h1 := (Nat.le_div_iff_mul_le h0).1 h
    rw [Nat.succ_mul] at h1
    omega
/-- an index of a chunk -/
abbrev ChIx (len step : Nat) := { k : Nat // k < chunks len step }
def chunkUp (len step : Nat) (pre : List (ChIx len step)) : Prop := pre.map (·.1) = List.range pre.length
theorem chunkUp_snoc {len step : Nat} {pre : List (ChIx len step)} (h : chunkUp len step pre) (x : ChIx len step) (hx : x.1 = pre.length) : chunkUp len step (pre ++ [x]) := by
  unfold chunkUp at *
  rw [List.map_append, h, List.length_append]
  simp [List.range_succ, hx]

/-- what a round has to keep: the two boxes -/
def KeepsTwo (A B : Nat) (W W' : World) : Prop := W'.heap[A]? = W.heap[A]? ∧ W'.heap[B]? = W.heap[B]?
theorem KeepsTwo.trans {A B : Nat} {W W' W'' : World} (h : KeepsTwo A B W W') (k : KeepsTwo A B W' W'') : KeepsTwo A B W W'' := ⟨k.1.trans h.1, k.2.trans h.2⟩
theorem KeepsTwo.put {A B : Nat} {w : World} (hA : A < w.heap.size) (hB : B < w.heap.size) (W : World) (l : Nat) (o o' : Obj) (hl : w.heap.size ≤ l) (_ : W.heap[l]? = some o) (_ : o.isCells = false) (_ : o.isWalk = false) : KeepsTwo A B W (W.putObj l o') :=
  ⟨World.putObj_heap_other (by omega), World.putObj_heap_other (by omega)⟩
theorem KeepsTwo.cell1 {A B : Nat} {W W' : World} (h : KeepsTwo A B W W') : W'.cell? ⟨A, 0, none⟩ = W.cell? ⟨A, 0, none⟩ := World.cell?_of_block h.1
theorem KeepsTwo.cell2 {A B : Nat} {W W' : World} (h : KeepsTwo A B W W') : W'.cell? ⟨B, 0, none⟩ = W.cell? ⟨B, 0, none⟩ := World.cell?_of_block h.2

attribute [local go_sem] Oper.semAt_some
set_option maxRecDepth 100000 in
set_option maxHeartbeats 2000000 in
theorem chunk1_in (n l Bs Bn b off len cap step : Nat) (hs1 : 1 ≤ step) (hs2 : step ≤ 1099511627776) (hlc : len ≤ cap) (hcap : len ≤ 281474976710656)
    (J Jx : List (ChIx len step) → World → Prop) (hJd : ∀ pre W, J pre W → J pre W.drew)
    (hY : ∀ pre x W, J pre W → pre.length < chunks len step → YieldAt Fence.wide (n - 1) Tryz.prog l #[chunkV b off len step x.1] W fun e W' =>
      (e = .returned (.bool true) ∧ J (pre ++ [x]) W' ∧ KeepsTwo Bs Bn W W') ∨ (e = .returned (.bool false) ∧ Jx (pre ++ [x]) W'))
    (W : World) (hBs : W.cell? ⟨Bs, 0, none⟩ = some (.slice (some ⟨b, off, none⟩) len cap)) (hBn : W.cell? ⟨Bn, 0, none⟩ = some (.int .i64 step)) (h0 : J [] W) :
    CallsIn Fence.wide n Tryz.prog 61 #[.func (.yield l) #[] #[], .pointer (some ⟨Bs, 0, none⟩), .pointer (some ⟨Bn, 0, none⟩)] W fun e W' => (∃ v, e = .returned v) ∧
      ((∃ ys, (ys.length = chunks len step ∧ chunkUp len step ys) ∧ J ys W') ∨ (∃ pre, (pre.length ≤ chunks len step ∧ chunkUp len step pre) ∧ Jx pre W')) := by
  have hY' := Lib.hid hY
  have HD := Lib.hid hJd
  clear hJd
  have H0 := Lib.hid h0
  have HBs := Lib.hid hBs
  have HBn := Lib.hid hBn
  clear hY h0 hBs hBn
  refine callsIn_of_wp Tryz.func61 rfl trivial ?_ rfl
  simp only [Tryz.ntmps61, List.size_toArray, List.length_cons, List.length_nil, Nat.reduceAdd, Nat.reduceSub, Array.replicate_succ, Array.replicate_zero, List.push_toArray, List.append_toArray, List.nil_append, List.cons_append]
  gi_wp2
  gi_loopw [4] (fun i wr => ∃ (k : Nat) (pre : List (ChIx len step)), i = .int .i64 (k * step : Nat) ∧ pre.length = k ∧ k ≤ chunks len step ∧ chunkUp len step pre ∧ J pre wr ∧ KeepsTwo Bs Bn W wr)
    (fun i _ => len - (intOf i).toNat)
  case atStart => exact ⟨0, [], by simp, rfl, Nat.zero_le _, rfl, H0.out, rfl, rfl⟩
  case round =>
    obtain ⟨k, pre, rfl, hpk, hk, hup, hJs, hnx⟩ := hrel
    have HUP := Lib.hid hup
    have HPK := Lib.hid hpk
    have HJ := Lib.hid hJs
    have HB := Lib.hid hnx
    clear hup hpk hJs hnx
    have hcs : wr.cell? ⟨Bs, 0, none⟩ = some (.slice (some ⟨b, off, none⟩) len cap) := HB.out.cell1.trans HBs.out
    have hcn : wr.cell? ⟨Bn, 0, none⟩ = some (.int .i64 step) := HB.out.cell2.trans HBn.out
    obtain ⟨m, hm⟩ : ∃ m, m = k * step := ⟨_, rfl⟩
    rw [← hm]
    have HM := Lib.hid hm
    clear hm
    by_cases hlt : m < len
    · have hkc : k < chunks len step := chunks_lt hs1 (by rw [← HM.out]; exact hlt)
      obtain ⟨fn, tmps, assign, body, hy, hR⟩ := hY'.out pre ⟨k, hkc⟩ wr.drew (HD.out _ _ HJ.out) (by rw [HPK.out]; exact hkc)
      obtain ⟨c, hc⟩ : ∃ c : Nat, c = min step (len - m) := ⟨_, rfl⟩
      have hc1 : c ≤ len - m := by omega
      have hc2 : c ≤ step := by omega
      have hc3 : 1 ≤ c := by omega
      have hc4 : k * step + step ≤ len → c = step := by rw [← HM.out]; omega
      have HC4 := Lib.hid hc4
      clear hc4
      have hci : ((if len - m < step then ((len - m : Nat) : Int) else (step : Int)) : Int) = (c : Int) := by split <;> omega
      have hv : chunkV b off len step k = .slice (some ⟨b, off + m, none⟩) c c := by unfold chunkV; rw [← HM.out, ← hc]
      have hy' : (Instr.yield l #[.slice (some ⟨b, off + m, none⟩) c c]).run Tryz.prog wr.drew = .ok (.round l fn tmps assign body) wr.drew := by rw [← hv]; exact hy
      have HR := Lib.hid hR
      have HV := Lib.hid hv
      have HY := Lib.hid hy'
      have HC := Lib.hid hci
      clear hR hy hy' hv hc hci
      gi_wp2
      refine wpIn_wide.2 ?_
      go_region
      rw [HC.out]
      have hcs' : wr.drew.cell? ⟨Bs, 0, none⟩ = some (.slice (some ⟨b, off, none⟩) len cap) := hcs
      have hcn' : wr.drew.cell? ⟨Bn, 0, none⟩ = some (.int .i64 step) := hcn
      have HB2 : Hid (KeepsTwo Bs Bn W wr.drew) := Lib.hid HB.out
      generalize wr.drew = wd at *
      clear hcs hcn
      have e2 : IntKind.i64.wrap ((m : Int) + (c : Int)) = ((m + c : Nat) : Int) := IntWalk.i64_in _ (by omega)
      have e3 : ((m + c : Nat) : Int) - (m : Int) = (c : Int) := by omega
      have e4 : ¬ (m + c = m) := by omega
      have e5 : ¬ (c = 0) := by omega
      have hy := HY.out
      gi_wp2
      refine ⟨fun h => by simp [Fence.wide] at h, ?_⟩
      refine HR.out.mono ?_
      rintro e W3 (⟨rfl, hJ3, hk3⟩ | ⟨rfl, hJx3⟩)
      · have hJ4 := Lib.hid hJ3
        have hB4 := Lib.hid (HB2.out.trans hk3)
        have hcn3 : W3.cell? ⟨Bn, 0, none⟩ = some (.int .i64 step) := hk3.cell2.trans hcn'
        clear hJ3 hk3 hcs' hcn' hy e2 e3 e4 e5
        have e6 : IntKind.i64.wrap ((m : Int) + (step : Int)) = ((m + step : Nat) : Int) := IntWalk.i64_in _ (by omega)
        gi_wp2
        go_roundw
        case rel => exact ⟨k + 1, _, congrArg (Value.int .i64) (by rw [HM.out, Nat.succ_mul]; omega), by rw [List.length_append, HPK.out]; rfl, hkc, chunkUp_snoc HUP.out _ HPK.out.symm, hJ4.out, hB4.out⟩
        case measure => simp [intOf]; omega
      · gi_wp2
        refine bodyPost_ret (results_none rfl _ _ _) rfl ?_
        exact ⟨⟨_, rfl⟩, .inr ⟨_, ⟨by rw [List.length_append, HPK.out]; exact hkc, chunkUp_snoc HUP.out _ HPK.out.symm⟩, hJx3⟩⟩
    · have hkc : k = chunks len step := Nat.le_antisymm hk (chunks_le hs1 (by rw [← HM.out]; omega))
      have HK := Lib.hid hkc
      clear hkc
      gi_wp2
      go_end0
      exact ⟨⟨_, rfl⟩, .inl ⟨pre, ⟨by rw [HPK.out, HK.out], HUP.out⟩, HJ.out⟩⟩
set_option maxRecDepth 100000 in
set_option maxHeartbeats 1000000 in
/-- of no bytes: no round -/
theorem chunk1_nil_in {step : Nat} (n l Bs Bn cap : Nat) (p : Option Addr) (J : List (ChIx 0 step) → World → Prop) (W : World) (hBs : W.cell? ⟨Bs, 0, none⟩ = some (.slice p 0 cap)) (h0 : J [] W) :
    CallsIn Fence.wide n Tryz.prog 61 #[.func (.yield l) #[] #[], .pointer (some ⟨Bs, 0, none⟩), .pointer (some ⟨Bn, 0, none⟩)] W fun e W' => (∃ v, e = .returned v) ∧ J [] W' := by
  refine callsIn_of_wp Tryz.func61 rfl trivial ?_ rfl
  simp only [Tryz.ntmps61, List.size_toArray, List.length_cons, List.length_nil, Nat.reduceAdd, Nat.reduceSub, Array.replicate_succ, Array.replicate_zero, List.push_toArray, List.append_toArray, List.nil_append, List.cons_append]
  gi_wp2
  gi_loopw [4] (fun i wr => i = .int .i64 0 ∧ J [] wr ∧ wr.cell? ⟨Bs, 0, none⟩ = some (.slice p 0 cap)) (fun _ _ => 0)
  case atStart => exact ⟨rfl, h0, hBs⟩
  case round =>
    obtain ⟨rfl, hJs, hc⟩ := hrel
    gi_wp2
    go_end0
    exact ⟨⟨_, rfl⟩, hJs⟩

set_option maxRecDepth 100000 in
/-- slices.Chunk: both arguments are boxed; the function's value captures the boxes -/
theorem chunk_any (a : Option Addr) (len cap step : Nat) (hs1 : 1 ≤ step) (w : World) :
    Calls Tryz.prog 20 #[.slice a len cap, .int .i64 step] w fun e w' => e = .returned (.func (.func 61) #[] #[.pointer (some ⟨w.heap.size, 0, none⟩), .pointer (some ⟨w.heap.size + 1, 0, none⟩)]) ∧ (w.alloc (.cells #[.slice a len cap] 26)).alloc (.cells #[.int .i64 step] 3) = w' := by
  go_enter Tryz.func20, Tryz.ntmps20
  go_wp2
  go_ret
  exact ⟨rfl, rfl⟩

theorem grownBy_drew (W : World) : W.grownBy W.drew none := ⟨rfl, rfl, rfl, Nat.le_refl _, fun _ _ _ => rfl⟩

/-- WHAT slices.Chunk HANDS BACK -/
theorem chunk_stops (n Bs Bn : Nat) (p : Option Addr) (len cap step : Nat) (hs1 : 1 ≤ step) (hs2 : step ≤ 1099511627776) (hlc : len ≤ cap) (hcap : len ≤ 281474976710656) (w : World) (hBs0 : Bs < w.heap.size) (hBn0 : Bn < w.heap.size)
    (b off : Nat) (hp : len = 0 ∨ p = some ⟨b, off, none⟩) (hBs : w.cell? ⟨Bs, 0, none⟩ = some (.slice p len cap)) (hBn : w.cell? ⟨Bn, 0, none⟩ = some (.int .i64 step)) :
    SeqStopsK Fence.wide n Tryz.prog 61 #[.pointer (some ⟨Bs, 0, none⟩), .pointer (some ⟨Bn, 0, none⟩)] (fun x : ChIx len step => #[chunkV b off len step x.1]) (KeepsTwo Bs Bn) (fun ys => ys.length = chunks len step ∧ chunkUp len step ys) (fun pre => pre.length ≤ chunks len step ∧ chunkUp len step pre) (chunks len step) w := fun l J Jx W hW hJ _ hY h0 => by
  have hBs' := (hW.cell (p := ⟨Bs, 0, none⟩) hBs0).trans hBs
  have hBn' := (hW.cell (p := ⟨Bn, 0, none⟩) hBn0).trans hBn
  rcases hp with rfl | rfl
  · refine (chunk1_nil_in n l Bs Bn cap p J W hBs' h0).mono fun e W' ⟨he, hj⟩ => ⟨he, .inl ⟨[], ⟨?_, rfl⟩, hj⟩⟩
    unfold chunks
    rw [Nat.div_eq_of_lt (by omega)]
    rfl
  · exact chunk1_in n l Bs Bn b off len cap step hs1 hs2 hlc hcap J Jx (fun pre W1 h => hJ pre W1 _ none h (grownBy_drew _) (fun r e => by cases e)) hY W hBs' hBn' h0
end Go.Proofs.YtioeifbobhdccaaGreatDoor
/- slices.Chunk at uint16: its contract as an iterator. -/
namespace Go.Proofs.YtioeifbobhdccaaGreatDoor
open Go.RowKit Go.Shelf
attribute [local go_sem] Oper.semAt_some
set_option maxRecDepth 100000 in
set_option maxHeartbeats 2000000 in
theorem wchunk1_in (n l Bs Bn b off len cap step : Nat) (hs1 : 1 ≤ step) (hs2 : step ≤ 1099511627776) (hlc : len ≤ cap) (hcap : len ≤ 281474976710656)
    (J Jx : List (ChIx len step) → World → Prop) (hJd : ∀ pre W, J pre W → J pre W.drew)
    (hY : ∀ pre x W, J pre W → pre.length < chunks len step → YieldAt Fence.wide (n - 1) Tryz.prog l #[chunkV b off len step x.1] W fun e W' =>
      (e = .returned (.bool true) ∧ J (pre ++ [x]) W' ∧ KeepsTwo Bs Bn W W') ∨ (e = .returned (.bool false) ∧ Jx (pre ++ [x]) W'))
    (W : World) (hBs : W.cell? ⟨Bs, 0, none⟩ = some (.slice (some ⟨b, off, none⟩) len cap)) (hBn : W.cell? ⟨Bn, 0, none⟩ = some (.int .i64 step)) (h0 : J [] W) :
    CallsIn Fence.wide n Tryz.prog 97 #[.func (.yield l) #[] #[], .pointer (some ⟨Bs, 0, none⟩), .pointer (some ⟨Bn, 0, none⟩)] W fun e W' => (∃ v, e = .returned v) ∧
      ((∃ ys, (ys.length = chunks len step ∧ chunkUp len step ys) ∧ J ys W') ∨ (∃ pre, (pre.length ≤ chunks len step ∧ chunkUp len step pre) ∧ Jx pre W')) := by
  have hY' := Lib.hid hY
  have HD := Lib.hid hJd
  clear hJd
  have H0 := Lib.hid h0
  have HBs := Lib.hid hBs
  have HBn := Lib.hid hBn
  clear hY h0 hBs hBn
  refine callsIn_of_wp Tryz.func97 rfl trivial ?_ rfl
  simp only [Tryz.ntmps97, List.size_toArray, List.length_cons, List.length_nil, Nat.reduceAdd, Nat.reduceSub, Array.replicate_succ, Array.replicate_zero, List.push_toArray, List.append_toArray, List.nil_append, List.cons_append]
  gi_wp2
  gi_loopw [4] (fun i wr => ∃ (k : Nat) (pre : List (ChIx len step)), i = .int .i64 (k * step : Nat) ∧ pre.length = k ∧ k ≤ chunks len step ∧ chunkUp len step pre ∧ J pre wr ∧ KeepsTwo Bs Bn W wr)
    (fun i _ => len - (intOf i).toNat)
  case atStart => exact ⟨0, [], by simp, rfl, Nat.zero_le _, rfl, H0.out, rfl, rfl⟩
  case round =>
    obtain ⟨k, pre, rfl, hpk, hk, hup, hJs, hnx⟩ := hrel
    have HUP := Lib.hid hup
    have HPK := Lib.hid hpk
    have HJ := Lib.hid hJs
    have HB := Lib.hid hnx
    clear hup hpk hJs hnx
    have hcs : wr.cell? ⟨Bs, 0, none⟩ = some (.slice (some ⟨b, off, none⟩) len cap) := HB.out.cell1.trans HBs.out
    have hcn : wr.cell? ⟨Bn, 0, none⟩ = some (.int .i64 step) := HB.out.cell2.trans HBn.out
    obtain ⟨m, hm⟩ : ∃ m, m = k * step := ⟨_, rfl⟩
    rw [← hm]
    have HM := Lib.hid hm
    clear hm
    by_cases hlt : m < len
    · have hkc : k < chunks len step := chunks_lt hs1 (by rw [← HM.out]; exact hlt)
      obtain ⟨fn, tmps, assign, body, hy, hR⟩ := hY'.out pre ⟨k, hkc⟩ wr.drew (HD.out _ _ HJ.out) (by rw [HPK.out]; exact hkc)
      obtain ⟨c, hc⟩ : ∃ c : Nat, c = min step (len - m) := ⟨_, rfl⟩
      have hc1 : c ≤ len - m := by omega
      have hc2 : c ≤ step := by omega
      have hc3 : 1 ≤ c := by omega
      have hc4 : k * step + step ≤ len → c = step := by rw [← HM.out]; omega
      have HC4 := Lib.hid hc4
      clear hc4
      have hci : ((if len - m < step then ((len - m : Nat) : Int) else (step : Int)) : Int) = (c : Int) := by split <;> omega
      have hv : chunkV b off len step k = .slice (some ⟨b, off + m, none⟩) c c := by unfold chunkV; rw [← HM.out, ← hc]
      have hy' : (Instr.yield l #[.slice (some ⟨b, off + m, none⟩) c c]).run Tryz.prog wr.drew = .ok (.round l fn tmps assign body) wr.drew := by rw [← hv]; exact hy
      have HR := Lib.hid hR
      have HV := Lib.hid hv
      have HY := Lib.hid hy'
      have HC := Lib.hid hci
      clear hR hy hy' hv hc hci
      gi_wp2
      refine wpIn_wide.2 ?_
      go_region
      rw [HC.out]
      have hcs' : wr.drew.cell? ⟨Bs, 0, none⟩ = some (.slice (some ⟨b, off, none⟩) len cap) := hcs
      have hcn' : wr.drew.cell? ⟨Bn, 0, none⟩ = some (.int .i64 step) := hcn
      have HB2 : Hid (KeepsTwo Bs Bn W wr.drew) := Lib.hid HB.out
      generalize wr.drew = wd at *
      clear hcs hcn
      have e2 : IntKind.i64.wrap ((m : Int) + (c : Int)) = ((m + c : Nat) : Int) := IntWalk.i64_in _ (by omega)
      have e3 : ((m + c : Nat) : Int) - (m : Int) = (c : Int) := by omega
      have e4 : ¬ (m + c = m) := by omega
      have e5 : ¬ (c = 0) := by omega
      have hy := HY.out
      gi_wp2
      refine ⟨fun h => by simp [Fence.wide] at h, ?_⟩
      refine HR.out.mono ?_
      rintro e W3 (⟨rfl, hJ3, hk3⟩ | ⟨rfl, hJx3⟩)
      · have hJ4 := Lib.hid hJ3
        have hB4 := Lib.hid (HB2.out.trans hk3)
        have hcn3 : W3.cell? ⟨Bn, 0, none⟩ = some (.int .i64 step) := hk3.cell2.trans hcn'
        clear hJ3 hk3 hcs' hcn' hy e2 e3 e4 e5
        have e6 : IntKind.i64.wrap ((m : Int) + (step : Int)) = ((m + step : Nat) : Int) := IntWalk.i64_in _ (by omega)
        gi_wp2
        go_roundw
        case rel => exact ⟨k + 1, _, congrArg (Value.int .i64) (by rw [HM.out, Nat.succ_mul]; omega), by rw [List.length_append, HPK.out]; rfl, hkc, chunkUp_snoc HUP.out _ HPK.out.symm, hJ4.out, hB4.out⟩
        case measure => simp [intOf]; omega
      · gi_wp2
        refine bodyPost_ret (results_none rfl _ _ _) rfl ?_
        exact ⟨⟨_, rfl⟩, .inr ⟨_, ⟨by rw [List.length_append, HPK.out]; exact hkc, chunkUp_snoc HUP.out _ HPK.out.symm⟩, hJx3⟩⟩
    · have hkc : k = chunks len step := Nat.le_antisymm hk (chunks_le hs1 (by rw [← HM.out]; omega))
      have HK := Lib.hid hkc
      clear hkc
      gi_wp2
      go_end0
      exact ⟨⟨_, rfl⟩, .inl ⟨pre, ⟨by rw [HPK.out, HK.out], HUP.out⟩, HJ.out⟩⟩
set_option maxRecDepth 100000 in
set_option maxHeartbeats 1000000 in
/-- of no bytes: no round -/
theorem wchunk1_nil_in {step : Nat} (n l Bs Bn cap : Nat) (p : Option Addr) (J : List (ChIx 0 step) → World → Prop) (W : World) (hBs : W.cell? ⟨Bs, 0, none⟩ = some (.slice p 0 cap)) (h0 : J [] W) :
    CallsIn Fence.wide n Tryz.prog 97 #[.func (.yield l) #[] #[], .pointer (some ⟨Bs, 0, none⟩), .pointer (some ⟨Bn, 0, none⟩)] W fun e W' => (∃ v, e = .returned v) ∧ J [] W' := by
  refine callsIn_of_wp Tryz.func97 rfl trivial ?_ rfl
  simp only [Tryz.ntmps97, List.size_toArray, List.length_cons, List.length_nil, Nat.reduceAdd, Nat.reduceSub, Array.replicate_succ, Array.replicate_zero, List.push_toArray, List.append_toArray, List.nil_append, List.cons_append]
  gi_wp2
  gi_loopw [4] (fun i wr => i = .int .i64 0 ∧ J [] wr ∧ wr.cell? ⟨Bs, 0, none⟩ = some (.slice p 0 cap)) (fun _ _ => 0)
  case atStart => exact ⟨rfl, h0, hBs⟩
  case round =>
    obtain ⟨rfl, hJs, hc⟩ := hrel
    gi_wp2
    go_end0
    exact ⟨⟨_, rfl⟩, hJs⟩

set_option maxRecDepth 100000 in
/-- slices.Chunk: both arguments are boxed; the function's value captures the boxes -/
theorem wchunk_any (a : Option Addr) (len cap step : Nat) (hs1 : 1 ≤ step) (w : World) :
    Calls Tryz.prog 65 #[.slice a len cap, .int .i64 step] w fun e w' => e = .returned (.func (.func 97) #[] #[.pointer (some ⟨w.heap.size, 0, none⟩), .pointer (some ⟨w.heap.size + 1, 0, none⟩)]) ∧ (w.alloc (.cells #[.slice a len cap] 22)).alloc (.cells #[.int .i64 step] 3) = w' := by
  go_enter Tryz.func65, Tryz.ntmps65
  go_wp2
  go_ret
  exact ⟨rfl, rfl⟩


/-- WHAT slices.Chunk HANDS BACK -/
theorem wchunk_stops (n Bs Bn : Nat) (p : Option Addr) (len cap step : Nat) (hs1 : 1 ≤ step) (hs2 : step ≤ 1099511627776) (hlc : len ≤ cap) (hcap : len ≤ 281474976710656) (w : World) (hBs0 : Bs < w.heap.size) (hBn0 : Bn < w.heap.size)
    (b off : Nat) (hp : len = 0 ∨ p = some ⟨b, off, none⟩) (hBs : w.cell? ⟨Bs, 0, none⟩ = some (.slice p len cap)) (hBn : w.cell? ⟨Bn, 0, none⟩ = some (.int .i64 step)) :
    SeqStopsK Fence.wide n Tryz.prog 97 #[.pointer (some ⟨Bs, 0, none⟩), .pointer (some ⟨Bn, 0, none⟩)] (fun x : ChIx len step => #[chunkV b off len step x.1]) (KeepsTwo Bs Bn) (fun ys => ys.length = chunks len step ∧ chunkUp len step ys) (fun pre => pre.length ≤ chunks len step ∧ chunkUp len step pre) (chunks len step) w := fun l J Jx W hW hJ _ hY h0 => by
  have hBs' := (hW.cell (p := ⟨Bs, 0, none⟩) hBs0).trans hBs
  have hBn' := (hW.cell (p := ⟨Bn, 0, none⟩) hBn0).trans hBn
  rcases hp with rfl | rfl
  · refine (wchunk1_nil_in n l Bs Bn cap p J W hBs' h0).mono fun e W' ⟨he, hj⟩ => ⟨he, .inl ⟨[], ⟨?_, rfl⟩, hj⟩⟩
    unfold chunks
    rw [Nat.div_eq_of_lt (by omega)]
    rfl
  · exact wchunk1_in n l Bs Bn b off len cap step hs1 hs2 hlc hcap J Jx (fun pre W1 h => hJ pre W1 _ none h (grownBy_drew _) (fun r e => by cases e)) hY W hBs' hBn' h0
end Go.Proofs.YtioeifbobhdccaaGreatDoor
