/- A range over a function whose iterator turns one block that lay when the loop began (a cursor), and reads between two rounds. No program in sight. -/
import Derived.RangeFuncFrom
import Derived.Test.YtioeifbobhdccaaGreatDoorM30
import Derived.Test.YtioeifbobhdccaaGreatDoorM19
import Derived.Test.YtioeifbobhdccaaGreatDoorM3
import Derived.Test.YtioeifbobhdccaaGreatDoorM14
namespace Go.Proofs.YtioeifbobhdccaaGreatDoor
open Go.RowKit
/-- the iterator's contract: gb the block that it turns, Nx what holds of the element that comes next, S what holds at the end -/
def SeqCur {α : Type} (F : Fence) (n : Nat) (P : Program) (gf : Nat) (lb : Array Value) (val : α → Value) (gb : Nat) (Kp : World → World → Prop) (Nx : List α → α → World → Prop) (S : List α → World → Prop) (w : World) : Prop :=
  ∀ (l : Nat) (J : List α → World → Prop) (W : World), Below w.heap.size w W →
    (∀ s A B row, J s A → A.grownBy B row → (∀ r, row = some r → r = gb) → J s B) →
    (∀ pre x W1, J pre W1 → Nx pre x W1 → YieldAt F (n - 1) P l #[val x] W1 fun e W' => e = .returned (.bool true) ∧ J (pre ++ [x]) W' ∧ Kp W1 W') →
    J [] W →
    CallsIn F n P gf (#[.func (.yield l) #[] #[]] ++ lb) W fun e W' => (∃ v, e = .returned v) ∧ ∃ xs, S xs W' ∧ J xs W'
/-- what a round of the caller's keeps to -/
def AbidesCur {α : Type} (gb B : Nat) (I : List α → World → Prop) : Prop :=
  ∀ s A B' row, I s A → A.grownBy B' row → (∀ r, row = some r → r = gb ∨ (B ≤ r ∧ ∃ o : Obj, A.heap[r]? = some o ∧ o.isCells = false)) → I s B'
theorem wpIn_rangeFunc_cur {F : Fence} {n : Nat} {P : Program} {α : Type} {g : Operand} {ps : Array Tmp} {assign body : Code} {Q : Exit → Act → World → Prop} {a : Act} {w : World} (p t : Nat) (val : α → Value)
    (hro : F.round = none) (h1 : 1 ≤ n) {gf : Nat} {lb : Array Value} (hg : a.eval g = .func (.func gf) #[] lb) (hFg : F.fn gf) (eg : ∀ args w, (callFunc gf args).run P w = .ok (.enter gf args) w)
    {Kp : World → World → Prop} {gb : Nat} {Nx : List α → α → World → Prop} {S : List α → World → Prop} (hseq : SeqCur F (n - 1) P gf lb val gb Kp Nx S w)
    (hgb : gb < w.heap.size)
    (hKt : ∀ {A B C : World}, Kp A B → Kp B C → Kp A C) (hKb : ∀ (W : World) (l : Nat) (o o' : Obj), w.heap.size ≤ l → W.heap[l]? = some o → o.isCells = false → Kp W (W.putObj l o'))
    (hNx : ∀ (pre : List α) (x : α) (W : World) (l : Nat) (o o' : Obj), Nx pre x W → w.heap.size ≤ l → W.heap[l]? = some o → o.isCells = false → Nx pre x (W.putObj l o'))
    (hS : ∀ (xs : List α) (W : World) (l : Nat) (o o' : Obj), S xs W → w.heap.size ≤ l → W.heap[l]? = some o → o.isCells = false → S xs (W.putObj l o'))
    (hps : ps = #[p])
    (I : List α → World → Prop) (hI : AbidesCur gb w.heap.size I) (h0 : I [] w)
    (hassign : ∀ (l : Nat) (x : α) (W : World) (K : Act → World → Prop), K (setTwo a p t (val x)) W →
      assign.wpIn (F.inRound l) (n - 1 - 1) P (Exit.then K (fun _ _ _ => False)) { tmps := a.tmps.setIfInBounds p (val x), defers := [] } W)
    (hbody : ∀ (l : Nat) (pre : List α) (x : α) (W : World), I pre W → Nx pre x W → body.wpIn (F.inRound l) (n - 1 - 1) P (ownPostK Kp I (fun _ _ _ => False) (pre ++ [x]) W) (setTwo a p t (val x)) W)
    (hdone : ∀ (D : Nat) (xs : List α) (W : World), w.heap.size ≤ D → S xs W → I xs W → W.heap[D]? = some (.deferred (some [])) → Q .normal { a with defers := { target := .collected D, args := #[] } :: a.defers } W) :
    (Code.rangeFunc g ps assign body).wpIn F n P Q a w := by
  subst hps
  refine wpIn_rangeFunc ?_
  intro fn hfn
  rw [hro]
  obtain ⟨rec, hrec⟩ : ∃ rec : LoopState → Option Code → Loop, rec = fun st pe => { state := st, pending := pe, fn, tmps := a.tmps, params := #[p], assign, body, defers := w.heap.size } := ⟨_, rfl⟩
  obtain ⟨W1, hW1⟩ : ∃ W1, (w.alloc (.deferred (some []))).alloc (.loop (rec .ready none)) = W1 := ⟨_, rfl⟩
  have hL1 : W1.heap[w.heap.size + 1]? = some (.loop (rec .ready none)) := by
    rw [← hW1]; have := World.alloc_heap_new (w.alloc (.deferred (some []))) (.loop (rec .ready none)); rwa [World.size_alloc] at this
  have hK1 : W1.heap[w.heap.size]? = some (.deferred (some [])) := by
    rw [← hW1]; exact (Below.heap_alloc _ _ _ (by simp)).trans (World.alloc_heap_new w _)
  have hIa : ∀ {s : List α} {W : World} (o : Obj), I s W → I s (W.alloc o) := fun o hs => hI _ _ _ none hs (World.grownBy_alloc _ o none) (fun r e => by cases e)
  have hIp : ∀ {s : List α} {W : World} {l : Nat} {o : Obj} (o' : Obj), I s W → w.heap.size ≤ l → W.heap[l]? = some o → o.isCells = false → I s (W.putObj l o') := fun {s W l o} o' hs hB hl ho => hI _ _ _ (some l) hs (grownBy_putObj' W l o') (fun r e => by cases e; exact .inr ⟨hB, o, hl, ho⟩)
  have hI1 : I [] W1 := by rw [← hW1]; exact hIa _ (hIa _ h0)
  have hb1 : Below w.heap.size w W1 := by
    rw [← hW1]; exact ((Below.refl _ w).alloc (Nat.le_refl _) _).alloc (by simp) _
  refine ⟨w.heap.size + 1, [{ target := .collected w.heap.size, args := #[] }], W1, { target := .fn (.func gf) lb, args := #[.func (.yield (w.heap.size + 1)) #[] #[]] }, W1, gf,
    #[.func (.yield (w.heap.size + 1)) #[] #[]] ++ lb, W1, ?_, ?_, ?_, ?_, fun _ => h1, ?_⟩
  · rw [← hW1, hrec]; exact run_enterLoop_outer _ _ _ _ _
  · simp only [resolve, hg]
    simp [go_sem]
  · intro f' hf'; simp [Target.leads] at hf'; subst hf'; exact hFg
  · simp [invoke, go_sem, eg]
  · refine (hseq (w.heap.size + 1)
      (fun pre W => I pre W ∧ W.heap[w.heap.size + 1]? = some (.loop (rec .ready none)) ∧ W.heap[w.heap.size]? = some (.deferred (some [])))
      W1 hb1
      (fun s A B row hs hg' hr => ⟨hI s A B row hs.1 hg' (fun r e => .inl (hr r e)),
        grown_block hg' hs.2.1 (fun e => by have := hr _ e.symm; omega), grown_block hg' hs.2.2 (fun e => by have := hr _ e.symm; omega)⟩)
      ?_ ⟨hI1, hL1, hK1⟩).mono ?_
    · rintro pre x W ⟨hi, hl, hk⟩ hnx
      have hlt : w.heap.size + 1 < W.heap.size := (Array.getElem?_eq_some_iff.1 hl).1
      have hy := run_yield (P := P) (args := #[val x]) hl (by rw [hrec]; rfl)
      rw [hrec] at hy
      have hfold : ((#[p] : Array Tmp).zip #[val x]).foldl (fun t (p, v) => t.setIfInBounds p v) a.tmps = a.tmps.setIfInBounds p (val x) := by simp
      refine ⟨fn, a.tmps.setIfInBounds p (val x), assign, body, by rw [← hfold]; exact hy, roundIn_of_wpIn hfn (hassign _ x W _ ⟨_, run_beginRound hl (by rw [hrec]), ?_⟩)⟩
      have hl2 : (W.putObj (w.heap.size + 1) (.loop { rec .ready none with state := .busy })).heap[w.heap.size + 1]? = some (.loop { rec .ready none with state := .busy }) := World.putObj_heap_same hlt
      have hk2 : (W.putObj (w.heap.size + 1) (.loop { rec .ready none with state := .busy })).heap[w.heap.size]? = some (.deferred (some [])) := (World.putObj_heap_other (by omega)).trans hk
      have hw2 : Kp W (W.putObj (w.heap.size + 1) (.loop { rec .ready none with state := .busy })) := hKb _ _ _ _ (by omega) hl rfl
      refine wpIn_mono (hbody _ pre x _ (hIp _ hi (by omega) hl rfl) (hNx _ _ _ _ _ _ hnx (by omega) hl rfl)) ?_
      have fin : ∀ (W3 : World), KeepsOthers (W.putObj (w.heap.size + 1) (.loop { rec .ready none with state := .busy })) W3 →
          (Instr.endRound (w.heap.size + 1) none).run P W3 = .ok (.bool true) (W3.putObj (w.heap.size + 1) (.loop (rec .ready none))) ∧
          W3.heap[w.heap.size + 1]? = some (.loop { rec .ready none with state := .busy }) ∧
          (W3.putObj (w.heap.size + 1) (.loop (rec .ready none))).heap[w.heap.size + 1]? = some (.loop (rec .ready none)) ∧
          (W3.putObj (w.heap.size + 1) (.loop (rec .ready none))).heap[w.heap.size]? = some (.deferred (some [])) := fun W3 hk3 => by
        have hl3 := hk3.same _ _ hl2 rfl
        have := run_endRound (P := P) none hl3
        rw [hrec] at this ⊢
        exact ⟨this, by rw [hrec] at hl3; exact hl3, World.putObj_heap_same (Array.getElem?_eq_some_iff.1 hl3).1, (World.putObj_heap_other (by omega)).trans (hk3.same _ _ hk2 rfl)⟩
      rintro e a3 W3 hp
      cases e with
      | normal =>
        obtain ⟨hk3, hkp3, hi3⟩ := hp
        obtain ⟨hr, hl3, hl4, hk4⟩ := fin W3 hk3
        exact ⟨_, _, hr, rfl, ⟨hIp _ hi3 (by omega) hl3 rfl, hl4, hk4⟩, hKt (hKt hw2 hkp3) (hKb _ _ _ _ (by omega) hl3 rfl)⟩
      | ret => exact hp.2.elim
      | exit id => exact hp.2.elim
      | goto t => exact hp.2.elim
      | panic ch => exact hp.elim
      | outgrown => exact hp.elim
    · rintro e W2 ⟨⟨v, rfl⟩, xs, hSx, hi, hl, hk⟩
      exact ⟨none, _, by have := run_endLoop (P := P) hl (by rw [hrec]; simp); rw [hrec] at this; exact this, hdone _ xs _ (Nat.le_refl _) (hS _ _ _ _ _ hSx (by omega) hl rfl) (hIp _ hi (by omega) hl rfl) ((World.putObj_heap_other (by omega)).trans hk)⟩
end Go.Proofs.YtioeifbobhdccaaGreatDoor
/- gif: the sub-blocks, an iterator. -/
namespace Go.Proofs.YtioeifbobhdccaaGreatDoor
open Go.RowKit Go.Sort Go.Shelf
attribute [local go_sem] Oper.semAt_some
/-- a sub-block that was read -/
structure gb.Blk where
  off : Nat
  cap : Nat
  d : List Int
def gb.Blk.val (b : Nat) (x : gb.Blk) : Value := .slice (some ⟨b, x.off, none⟩) x.d.length x.cap
def blkBytes (pcs : List (List Int)) : List Int := pcs.flatMap fun p => (p.length : Int) :: p
theorem blkBytes_cons (p : List Int) (pcs : List (List Int)) : blkBytes (p :: pcs) = (p.length : Int) :: (p ++ blkBytes pcs) := by simp [blkBytes]
def gb.Kp (b g rb : Nat) (W W' : World) : Prop := W'.heap[rb]? = W.heap[rb]? ∧ W'.heap[g]? = W.heap[g]? ∧ W'.heap[b]? = W.heap[b]?
def gb.Nx (b : Nat) (pcs : List (List Int)) (pre : List gb.Blk) (x : gb.Blk) (W : World) : Prop := Sl .u8 W (some ⟨b, x.off, none⟩) x.d.length x.cap x.d ∧ ∃ suf, pcs = pre.map (·.d) ++ x.d :: suf
def gb.End (g b : Nat) (pcs : List (List Int)) (rest : List Int) (xs : List gb.Blk) (W : World) : Prop := xs.map (·.d) = pcs ∧ ∃ off n cap, gr.At W g b off n cap rest
/-- what follows the count -/
def gb.tail (rest : List Int) : List (List Int) → List Int
  | [] => rest
  | p :: pcs => p ++ (blkBytes pcs ++ 0 :: rest)
def gb.cnt : List (List Int) → Nat
  | [] => 0
  | p :: _ => p.length
theorem gb.cnt_tail (rest : List Int) (pcs : List (List Int)) : blkBytes pcs ++ 0 :: rest = (gb.cnt pcs : Int) :: gb.tail rest pcs := by
  cases pcs with
  | nil => rfl
  | cons p l => rw [blkBytes_cons]; simp [gb.cnt, gb.tail]
theorem gr.At.kept {w w' : World} {g b off n cap : Nat} {l : List Int} (h : gr.At w g b off n cap l) (hg : w'.heap[g]? = w.heap[g]?) (hb : w'.heap[b]? = w.heap[b]?) : gr.At w' g b off n cap l := by
  refine ⟨hg.trans h.head, ⟨h.data.len, h.data.fits, h.data.most, h.data.bare, h.data.wf, ?_⟩, h.apart⟩
  rcases h.data.rd with h0 | ⟨b', off', e, hc⟩
  · exact .inl h0
  · simp only [Option.some.injEq, Addr.mk.injEq, and_true] at e
    obtain ⟨rfl, rfl⟩ := e
    exact .inr ⟨b, off, rfl, fun i hi => (World.cell?_of_block (a := ⟨b, off + i, none⟩) hb).trans (hc i hi)⟩
set_option maxRecDepth 100000 in
set_option maxHeartbeats 2000000 in
theorem blocks1_in (n l rb g b : Nat) (pcs : List (List Int)) (rest : List Int) (hps : ∀ p ∈ pcs, 1 ≤ p.length ∧ p.length ≤ 255) (hrg : rb ≠ g)
    (J : List gb.Blk → World → Prop) (hJ : ∀ s A B row, J s A → A.grownBy B row → (∀ r, row = some r → r = g) → J s B)
    (hY : ∀ pre x W1, J pre W1 → gb.Nx b pcs pre x W1 → YieldAt Fence.wide (n - 1) Tryz.prog l #[x.val b] W1 fun e W' => e = .returned (.bool true) ∧ J (pre ++ [x]) W' ∧ gb.Kp b g rb W1 W')
    (w : World) (hrb : w.heap[rb]? = some (.cells #[.pointer (some ⟨g, 0, none⟩)] 59 (0, 0))) (off m cap : Nat) (hat : gr.At w g b off m cap (blkBytes pcs ++ 0 :: rest)) (h0 : J [] w) :
    CallsIn Fence.wide n Tryz.prog 92 #[.func (.yield l) #[] #[], .pointer (some ⟨rb, 0, none⟩)] w fun e W' => (∃ v, e = .returned v) ∧ ∃ xs, gb.End g b pcs rest xs W' ∧ J xs W' := by
  have HY := Lib.hid hY
  have HJ := Lib.hid hJ
  have H0 := Lib.hid h0
  have HB := Lib.hid hrb
  have HA := Lib.hid hat
  have HPS := Lib.hid hps
  have kb := (cell_of_row w _ 0 _ _ (0, 0) hrb).trans (show _ = some (Value.pointer (some ⟨g, 0, none⟩)) from rfl)
  clear hY hJ h0 hrb hat hps
  refine callsIn_of_wp Tryz.func92 rfl trivial ?_ rfl
  simp only [Tryz.ntmps92, List.size_toArray, List.length_cons, List.length_nil, Nat.reduceAdd, Nat.reduceSub, Array.replicate_succ, Array.replicate_zero, List.push_toArray, List.append_toArray, List.nil_append, List.cons_append]
  refine wpIn_wide.2 ?_
  have hm1 : 1 ≤ m := by rw [← HA.out.data.len, List.length_append, List.length_cons]; omega
  go_wp2_with fail
  refine (grOne_any g b off m cap _ w HA.out hm1).mono ?_
  rintro e w1 ⟨rfl, ⟨off1, ha1⟩, hg1⟩
  have hc1 : (blkBytes pcs ++ 0 :: rest).getD 0 0 = (gb.cnt pcs : Int) := by rw [gb.cnt_tail]; rfl
  have ht1 : (blkBytes pcs ++ 0 :: rest).drop 1 = gb.tail rest pcs := by rw [gb.cnt_tail]; rfl
  rw [hc1]
  rw [ht1] at ha1
  have HA1 := Lib.hid ha1
  have HB1 := Lib.hid (grown_block hg1 HB.out (by intro e; exact hrg (Option.some.inj e)))
  have HJ1 := Lib.hid (HJ.out _ _ _ _ H0.out hg1 (fun r e => by cases e; rfl))
  obtain ⟨ct, hct⟩ : ∃ c, gb.cnt pcs = c := ⟨_, rfl⟩
  have HCT := Lib.hid hct
  rw [hct]
  clear hg1 ha1 hc1 ht1 hct kb hm1 H0 HB HA
  go_wp2_with fail
  go_loopg [3] pcs.length (fun gk s3 wr => ∃ (pre : List gb.Blk) (suf : List (List Int)) (off m cap : Nat), gk = suf.length ∧ s3 = .int .i64 (gb.cnt suf : Nat) ∧ pcs = pre.map (·.d) ++ suf ∧ gr.At wr g b off m cap (gb.tail rest suf) ∧ wr.heap[rb]? = some (.cells #[.pointer (some ⟨g, 0, none⟩)] 59 (0, 0)) ∧ J pre wr)
  case atStart => exact ⟨[], pcs, off1, _, _, rfl, by rw [HCT.out], rfl, HA1.out, HB1.out, HJ1.out⟩
  case round =>
    obtain ⟨pre, suf, off2, m2, cap2, hgk, rfl, hsp, ha2, hb2, hj2⟩ := hrel
    have Hg := Lib.hid hgk
    have HSP := Lib.hid hsp
    have HA2 := Lib.hid ha2
    have HB2 := Lib.hid hb2
    have HJ2 := Lib.hid hj2
    have kb := (cell_of_row wr _ 0 _ _ (0, 0) hb2).trans (show _ = some (Value.pointer (some ⟨g, 0, none⟩)) from rfl)
    clear hgk hsp ha2 hb2 hj2 HA1 HB1 HJ1 HCT
    cases suf with
    | nil =>
      rw [show gb.cnt [] = 0 from rfl]
      go_wp2_with fail
      go_end0
      exact ⟨⟨_, rfl⟩, pre, ⟨by rw [HSP.out, List.append_nil], _, _, _, HA2.out⟩, HJ2.out⟩
    | cons p suf =>
      obtain ⟨c, hc⟩ : ∃ c, p.length = c := ⟨_, rfl⟩
      have hc8 : 1 ≤ c ∧ c ≤ 255 := by
        have := HPS.out p (by rw [HSP.out]; simp)
        omega
      have hm2 : c ≤ m2 := by
        have := HA2.out.data.len
        rw [show gb.tail rest (p :: suf) = p ++ (blkBytes suf ++ 0 :: rest) from rfl, List.length_append] at this
        omega
      rw [show gb.cnt (p :: suf) = c from hc]
      have hd2 : (gb.tail rest (p :: suf)).drop c = blkBytes suf ++ 0 :: rest := by rw [← hc]; exact List.drop_left' rfl
      have ht2 : (gb.tail rest (p :: suf)).take c = p := by rw [← hc]; exact List.take_left' rfl
      have KB := Lib.hid (grBytes_any g b off2 m2 cap2 c _ wr HA2.out hm2)
      have HD2 := Lib.hid hd2
      have HT2 := Lib.hid ht2
      have HC := Lib.hid hc
      clear hd2 ht2 hc hm2
      go_upto_region 3 with (fail)
      refine (wpIn_wide (n := n)).1 ?_
      gi_wp2
      refine ⟨trivial, fun h => by simp [Fence.wide] at h, callsIn_wide.2 ?_⟩
      refine KB.out.mono ?_
      rintro e w3 ⟨rfl, ⟨off3, ha3⟩, hg3, hs3⟩
      rw [HD2.out] at ha3
      rw [HT2.out] at hs3
      have HA3 := Lib.hid ha3
      have HB3 := Lib.hid (grown_block hg3 HB2.out (by intro e; exact hrg (Option.some.inj e)))
      have hj3 := HJ.out _ _ _ _ HJ2.out hg3 (fun r e => by cases e; rfl)
      have hnx : gb.Nx b pcs pre ⟨off2, cap2, p⟩ w3 := ⟨by show Sl .u8 w3 (some ⟨b, off2, none⟩) p.length cap2 p; rw [HC.out]; exact hs3, suf, HSP.out⟩
      obtain ⟨fn, tm, asg, bd, hy, hR⟩ := HY.out pre ⟨off2, cap2, p⟩ w3 hj3 hnx
      have hval : (⟨off2, cap2, p⟩ : gb.Blk).val b = .slice (some ⟨b, off2, none⟩) c cap2 := by unfold gb.Blk.val; rw [HC.out]
      rw [hval] at hy
      have HYR := Lib.hid hR
      have HYY := Lib.hid hy
      have HS3 := Lib.hid hs3
      clear hy hR hval hnx hj3 ha3 hg3 hs3 kb KB HA2 HB2 HJ2
      have hy := HYY.out
      gi_wp2
      refine ⟨fun h => by simp [Fence.wide] at h, ?_⟩
      refine HYR.out.mono ?_
      rintro e W4 ⟨rfl, hj4, hk4, hkg, hkb⟩
      have HJ4 := Lib.hid hj4
      have HA4 := Lib.hid (HA3.out.kept hkg hkb)
      have HB4 := Lib.hid (hk4.trans HB3.out)
      have kb := (cell_of_row W4 _ 0 _ _ (0, 0) HB4.out).trans (show _ = some (Value.pointer (some ⟨g, 0, none⟩)) from rfl)
      clear hj4 hk4 hkg hkb hy HYR HA3 HB3
      gi_wp2
      have hm4 : 1 ≤ m2 - c := by rw [← HA4.out.data.len, List.length_append, List.length_cons]; omega
      have KO := Lib.hid (grOne_any g b off3 (m2 - c) (cap2 - c) _ W4 HA4.out hm4)
      have hc1 : (blkBytes suf ++ 0 :: rest).getD 0 0 = (gb.cnt suf : Int) := by rw [gb.cnt_tail]; rfl
      have ht1 : (blkBytes suf ++ 0 :: rest).drop 1 = gb.tail rest suf := by rw [gb.cnt_tail]; rfl
      have HC1 := Lib.hid hc1
      have HT1 := Lib.hid ht1
      clear hc1 ht1 hm4
      go_wp2_with fail
      refine KO.out.mono ?_
      rintro e W5 ⟨rfl, ⟨off5, ha5⟩, hg5⟩
      rw [HC1.out]
      rw [HT1.out] at ha5
      have HA5 := Lib.hid ha5
      have HB5 := Lib.hid (grown_block hg5 HB4.out (by intro e; exact hrg (Option.some.inj e)))
      have HJ5 := Lib.hid (HJ.out _ _ _ _ HJ4.out hg5 (fun r e => by cases e; rfl))
      obtain ⟨ct5, hct5⟩ : ∃ c, gb.cnt suf = c := ⟨_, rfl⟩
      rw [hct5]
      have HCT5 := Lib.hid hct5
      clear ha5 hg5 hct5 kb KO HA4 HB4 HJ4
      go_wp2_with fail
      go_roundg suf.length
      case measure => have := Hg.out; simp at this; omega
      case rel => exact ⟨pre ++ [⟨off2, cap2, p⟩], suf, off5, _, _, rfl, by rw [HCT5.out], by rw [HSP.out]; simp, HA5.out, HB5.out, HJ5.out⟩
set_option maxRecDepth 100000 in
theorem blocks_any (g : Nat) (w : World) :
    Calls Tryz.prog 62 #[.pointer (some ⟨g, 0, none⟩)] w fun e w' => e = .returned (.func (.func 92) #[] #[.pointer (some ⟨w.heap.size, 0, none⟩)]) ∧ w.alloc (.cells #[.pointer (some ⟨g, 0, none⟩)] 59) = w' := by
  go_enter Tryz.func62, Tryz.ntmps62
  go_wp2
  go_ret
  exact ⟨rfl, rfl⟩
theorem gr.At.lt {w : World} {g b off n cap : Nat} {l : List Int} (h : gr.At w g b off n cap l) (hn : 0 < l.length) : b < w.heap.size := by
  obtain ⟨b', off', e, hc⟩ := h.data.cells (by rw [← h.data.len]; omega)
  simp only [Option.some.injEq, Addr.mk.injEq, and_true] at e
  obtain ⟨rfl, rfl⟩ := e
  exact block_lt_of_cell (hc 0 (by rw [← h.data.len]; omega))
theorem blocks_seq (n rb g b : Nat) (pcs : List (List Int)) (rest : List Int) (hps : ∀ p ∈ pcs, 1 ≤ p.length ∧ p.length ≤ 255) (hrg : rb ≠ g)
    (w : World) (hrb : w.heap[rb]? = some (.cells #[.pointer (some ⟨g, 0, none⟩)] 59 (0, 0))) (off m cap : Nat) (hat : gr.At w g b off m cap (blkBytes pcs ++ 0 :: rest)) :
    SeqCur Fence.wide n Tryz.prog 92 #[.pointer (some ⟨rb, 0, none⟩)] (gb.Blk.val b) g (gb.Kp b g rb) (gb.Nx b pcs) (gb.End g b pcs rest) w := fun l J W hW hJ hY h0 =>
  blocks1_in n l rb g b pcs rest hps hrg J hJ hY W ((hW.block _ (block_lt hrb)).trans hrb) off m cap (hat.below hW) h0
theorem gb.Kp.trans {b g rb : Nat} {A B C : World} (h : gb.Kp b g rb A B) (k : gb.Kp b g rb B C) : gb.Kp b g rb A C := ⟨k.1.trans h.1, k.2.1.trans h.2.1, k.2.2.trans h.2.2⟩
theorem gb.Kp.put {b g rb B : Nat} (h1 : b < B) (h2 : g < B) (h3 : rb < B) (W : World) (l : Nat) (o o' : Obj) (hl : B ≤ l) (_ : W.heap[l]? = some o) (_ : o.isCells = false) : gb.Kp b g rb W (W.putObj l o') :=
  ⟨World.putObj_heap_other (by omega), World.putObj_heap_other (by omega), World.putObj_heap_other (by omega)⟩
theorem gb.Nx.put {b B : Nat} {pcs : List (List Int)} (h1 : b < B) (pre : List gb.Blk) (x : gb.Blk) (W : World) (l : Nat) (o o' : Obj) (h : gb.Nx b pcs pre x W) (hl : B ≤ l) (_ : W.heap[l]? = some o) (_ : o.isCells = false) : gb.Nx b pcs pre x (W.putObj l o') :=
  ⟨h.1.kept (grownBy_putObj' W l o') (by intro e; have := Option.some.inj e; omega), h.2⟩
theorem gb.End.put {g b B : Nat} {pcs : List (List Int)} {rest : List Int} (h1 : b < B) (h2 : g < B) (xs : List gb.Blk) (W : World) (l : Nat) (o o' : Obj) (h : gb.End g b pcs rest xs W) (hl : B ≤ l) (_ : W.heap[l]? = some o) (_ : o.isCells = false) : gb.End g b pcs rest xs (W.putObj l o') := by
  obtain ⟨e, off, n, cap, ha⟩ := h
  exact ⟨e, off, n, cap, ha.kept (World.putObj_heap_other (by omega)) (World.putObj_heap_other (by omega))⟩
end Go.Proofs.YtioeifbobhdccaaGreatDoor
/- A row behind a box that grows in a range over a function whose iterator turns a cursor. -/
namespace Go.Proofs.YtioeifbobhdccaaGreatDoor
open Go.RowKit Go.Sort Go.Shelf
/-- what a round of such a loop holds: g the cursor's block -/
structure CurI (w1 : World) (g base : Nat) (fix : List (Nat × Array Value × TypeId)) (ob : Nat) (ty e : TypeId) (size n : Nat) (xs : List Value) (W : World) : Prop where
  fix : ∀ p ∈ fix, W.heap[p.1]? = some (.cells p.2.1 p.2.2 (0, 0))
  box : ∃ vo, W.heap[ob]? = some (.cells #[vo] ty (0, 0)) ∧ W.ownsRow base e size vo n xs
  grown : w1.grownBy W (some g)
theorem grown_cur {w A B : World} {g : Nat} {row : Option Nat} (h : w.grownBy A (some g)) (k : A.grownBy B row) (hr : ∀ r, row = some r → r = g ∨ w.heap.size ≤ r) : w.grownBy B (some g) :=
  ⟨k.os.trans h.os, k.tape.trans h.tape, k.output.trans h.output, Nat.le_trans h.size k.size, fun i hi hne => (k.block i (Nat.lt_of_lt_of_le hi h.size) (by
    intro e
    rcases hr i e.symm with rfl | h1
    · exact hne rfl
    · omega)).trans (h.block i hi hne)⟩
theorem CurI.abides {w1 : World} {g base ob : Nat} {fix : List (Nat × Array Value × TypeId)} {ty e : TypeId} {size B : Nat} {α : Type} (hfg : ∀ p ∈ fix, p.1 ≠ g) (hB : w1.heap.size ≤ B) (hg : g < w1.heap.size) (hb : w1.heap.size ≤ base) (ho : w1.heap.size ≤ ob) (f : List α → Nat) (xs : List α → List Value) :
    AbidesCur g B (fun pre W => CurI w1 g base fix ob ty e size (f pre) (xs pre) W) := by
  intro s A W' row hs hgr hr
  obtain ⟨vo, h1, h2⟩ := hs.box
  refine ⟨fun p hp => grown_block hgr (hs.fix p hp) ?_, ⟨vo, grown_block hgr h1 ?_, World.ownsRow.kept h2 hgr ?_⟩, grown_cur hs.grown hgr fun r e => ?_⟩
  · intro e
    rcases hr p.1 e.symm with h | ⟨_, o, h3, h4⟩
    · exact hfg p hp h
    · rw [hs.fix p hp] at h3
      cases h3
      cases h4
  · intro e
    rcases hr ob e.symm with h | ⟨_, o, h3, h4⟩
    · omega
    · rw [h1] at h3
      cases h3
      cases h4
  · rcases h2.2 with ⟨rfl, _⟩ | ⟨g', cap', cur, rfl, _, hgg, _⟩
    · exact .inl rfl
    · refine .inr ?_
      intro e
      rcases hr g' e.symm with h | ⟨_, o, h3, h4⟩
      · have := (World.ownsRow.lt h2 g' rfl).1
        omega
      · rw [hgg] at h3
        cases h3
        cases h4
  · rcases hr r e with h | ⟨h, _⟩
    · exact .inl h
    · exact .inr (by omega)
theorem CurI.app {w1 W u w2 : World} {g base ob : Nat} {fix : List (Nat × Array Value × TypeId)} {ty e : TypeId} {size n n' : Nat} {xs xs' : List Value} {vo v' : Value} (hfe : ∀ p ∈ fix, p.2.2 ≠ e ∧ p.1 ≠ ob) (hob : ty ≠ e) (hb : w1.heap.size ≤ base) (hwo : w1.heap.size ≤ ob)
    (h : CurI w1 g base fix ob ty e size n xs W) (ho : W.heap[ob]? = some (.cells #[vo] ty (0, 0))) (hr : W.ownsRow base e size vo n xs) (hu : Below W.heap.size W u) (hg : u.grownBy w2 vo.ownBlock) (hown : w2.ownsRow base e size v' n' xs') :
    w2.heap[ob]? = some (.cells #[vo] ty (0, 0)) ∧ CurI w1 g base fix ob ty e size n' xs' (w2.setCell ⟨ob, 0, none⟩ v') ∧ KeepsOthers W (w2.setCell ⟨ob, 0, none⟩ v') ∧
      (∀ j o, W.heap[j]? = some o → j ≠ ob → some j ≠ vo.ownBlock → (w2.setCell ⟨ob, 0, none⟩ v').heap[j]? = some o) := by
  have c1 : w2.heap[ob]? = some (.cells #[vo] ty (0, 0)) := grown_block hg ((hu.block ob (block_lt ho)).trans ho) (own_ne hr ho hob)
  have k1 := grownBy_setCell3 w2 ob 0 v'
  have hlt := World.ownsRow.lt hr
  refine ⟨c1, ⟨fun p hp => grown_block k1 (grown_block hg ((hu.block _ (block_lt (h.fix p hp))).trans (h.fix p hp)) (own_ne hr (h.fix p hp) (hfe p hp).1)) (by intro e; exact (hfe p hp).2 (Option.some.inj e)), ⟨v', heap_setCell_same w2 ob 0 _ _ v' c1, World.ownsRow.kept hown k1 (.inr fun e' => own_ne hown c1 hob e'.symm)⟩, ?_⟩, ?_, ?_⟩
  · refine grown_cur (grown_cur (grown_cur h.grown (grown_of_below hu) (fun r e => by cases e)) hg (fun r e => .inr ?_)) k1 (fun r e => by cases e; exact .inr hwo)
    have := (hlt r e).1
    omega
  · refine ((keepsOthers_below hu).trans (KeepsOthers.of_grownBy hg fun j o e hj => ?_)).trans (KeepsOthers.setCell _ _ _)
    rcases hr.2 with ⟨rfl, _⟩ | ⟨g0, cap0, cur, rfl, _, hgg, _⟩
    · cases e
    · cases e
      have := ((hu.block _ (block_lt hgg)).trans hgg).symm.trans hj
      cases this
      rfl
  · intro j o hj hne hnv
    exact grown_block k1 (grown_block hg ((hu.block j (block_lt hj)).trans hj) hnv) (by intro e; exact hne (Option.some.inj e))
/-- what a round keeps for the iterator -/
theorem CurI.kp {w1 W w3 : World} {g base ob b rb : Nat} {fix : List (Nat × Array Value × TypeId)} {ty e : TypeId} {size n : Nat} {xs : List Value} {vo : Value} {cs : Array Value} {t : TypeId}
    (hrb : (rb, cs, t) ∈ fix) (hfe : ∀ p ∈ fix, p.2.2 ≠ e ∧ p.1 ≠ ob) (hgl : g < w1.heap.size) (hbl : b < w1.heap.size) (hb : w1.heap.size ≤ base) (hwo : w1.heap.size ≤ ob)
    (h : CurI w1 g base fix ob ty e size n xs W) (hr : W.ownsRow base e size vo n xs) (hk : ∀ j o, W.heap[j]? = some o → j ≠ ob → some j ≠ vo.ownBlock → w3.heap[j]? = some o) : gb.Kp b g rb W w3 := by
  have hs := h.grown.size
  have hlo : ∀ j, j < w1.heap.size → w3.heap[j]? = W.heap[j]? := by
    intro j hj
    have hj2 : j < W.heap.size := by omega
    rw [Array.getElem?_eq_getElem hj2]
    refine hk j _ (Array.getElem?_eq_getElem hj2) (by omega) fun e => ?_
    have := (World.ownsRow.lt hr j e.symm).1
    omega
  refine ⟨?_, hlo g hgl, hlo b hbl⟩
  have h1 := h.fix _ hrb
  exact (hk rb _ h1 (hfe _ hrb).2 (own_ne hr h1 (hfe _ hrb).1)).trans h1.symm
end Go.Proofs.YtioeifbobhdccaaGreatDoor
