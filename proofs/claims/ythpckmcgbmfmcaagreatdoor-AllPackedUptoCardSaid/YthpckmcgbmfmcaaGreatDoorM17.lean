/- Texts of this claim, joined. -/
import Derived.Test.YthpckmcgbmfmcaaGreatDoorM14
set_option maxRecDepth 100000
set_option maxHeartbeats 12800000
namespace Go.Proofs.YthpckmcgbmfmcaaGreatDoor
open Go.RowKit
def SeqCurN {α : Type} (F : Fence) (n : Nat) (P : Program) (gf : Nat) (lb : Array Value) (encs : α -> Array Value) (gb : Nat) (Kp : World -> World -> Prop) (Nx : List α -> α -> World -> Prop) (S : List α -> World -> Prop) (w : World) : Prop :=
 ∀ (l : Nat) (J : List α -> World -> Prop) (W : World), Below w.heap.size w W ->
  (∀ s A B row, J s A -> A.grownBy B row -> (∀ r, row = some r -> r = gb) -> J s B) ->
  (∀ pre x W1, J pre W1 -> Nx pre x W1 -> YieldAt F (n - 1) P l (encs x) W1 fun e W' => e = .returned (.bool true) /\ J (pre ++ [x]) W' /\ Kp W1 W') ->
  J [] W ->
  CallsIn F n P gf (#[.func (.yield l) #[] #[]] ++ lb) W fun e W' => (∃ v, e = .returned v) /\ ∃ xs, S xs W' /\ J xs W'
theorem wpIn_rangeFunc_curN {F : Fence} {n : Nat} {P : Program} {α : Type} {g : Operand} {ps : Array Tmp} {assign body : Code} {Q : Exit -> Act -> World -> Prop} {a : Act} {w : World} (encs : α -> Array Value) (a₁ : α -> Act)
  (hro : F.round = none) (h1 : 1 <= n) {gf : Nat} {lb : Array Value} (hg : a.eval g = .func (.func gf) #[] lb) (hFg : F.fn gf) (eg : ∀ args w, (callFunc gf args).run P w = .ok (.enter gf args) w)
  {Kp : World -> World -> Prop} {gb : Nat} {Nx : List α -> α -> World -> Prop} {S : List α -> World -> Prop} (hseq : SeqCurN F (n - 1) P gf lb encs gb Kp Nx S w)
  (hgb : gb < w.heap.size)
  (hKt : ∀ {A B C : World}, Kp A B -> Kp B C -> Kp A C) (hKb : ∀ (W : World) (l : Nat) (o o' : Obj), w.heap.size <= l -> W.heap[l]? = some o -> o.isCells = false -> Kp W (W.putObj l o'))
  (hNx : ∀ (pre : List α) (x : α) (W : World) (l : Nat) (o o' : Obj), Nx pre x W -> w.heap.size <= l -> W.heap[l]? = some o -> o.isCells = false -> Nx pre x (W.putObj l o'))
  (hS : ∀ (xs : List α) (W : World) (l : Nat) (o o' : Obj), S xs W -> w.heap.size <= l -> W.heap[l]? = some o -> o.isCells = false -> S xs (W.putObj l o'))
  (hps : ∀ x, (encs x).size = ps.size)
  (I : List α -> World -> Prop) (hI : AbidesCur gb w.heap.size I) (h0 : I [] w)
  (hassign : ∀ (l : Nat) (x : α) (W : World) (K : Act -> World -> Prop), K (a₁ x) W ->
   assign.wpIn (F.inRound l) (n - 1 - 1) P (Exit.then K (fun _ _ _ => False)) { tmps := (ps.zip (encs x)).foldl (fun t (p, v) => t.setIfInBounds p v) a.tmps, defers := [] } W)
  (hbody : ∀ (l : Nat) (pre : List α) (x : α) (W : World), I pre W -> Nx pre x W -> body.wpIn (F.inRound l) (n - 1 - 1) P (ownPostK Kp I (fun _ _ _ => False) (pre ++ [x]) W) (a₁ x) W)
  (hdone : ∀ (D : Nat) (xs : List α) (W : World), w.heap.size <= D -> S xs W -> I xs W -> W.heap[D]? = some (.deferred (some [])) -> Q .normal { a with defers := { target := .collected D, args := #[] } :: a.defers } W) :
  (Code.rangeFunc g ps assign body).wpIn F n P Q a w := by
 refine wpIn_rangeFunc ?_;intro fn hfn;rw [hro];obtain ⟨rec, hrec⟩ : ∃ rec : LoopState -> Option Code -> Loop, rec = fun st pe => { state := st, pending := pe, fn, tmps := a.tmps, params := ps, assign, body, defers := w.heap.size } := ⟨_, rfl⟩
 obtain ⟨W1, hW1⟩ : ∃ W1, (w.alloc (.deferred (some []))).alloc (.loop (rec .ready none)) = W1 := ⟨_, rfl⟩;have hL1 : W1.heap[w.heap.size + 1]? = some (.loop (rec .ready none)) := by
  rw [<- hW1]; have := World.alloc_heap_new (w.alloc (.deferred (some []))) (.loop (rec .ready none)); rwa [World.size_alloc] at this
 have hK1 : W1.heap[w.heap.size]? = some (.deferred (some [])) := by
  rw [<- hW1]; exact (Below.heap_alloc _ _ _ (by simp)).trans (World.alloc_heap_new w _)
 have hIa : ∀ {s : List α} {W : World} (o : Obj), I s W -> I s (W.alloc o) := fun o hs => hI _ _ _ none hs (World.grownBy_alloc _ o none) (fun r e => by cases e)
 have hIp : ∀ {s : List α} {W : World} {l : Nat} {o : Obj} (o' : Obj), I s W -> w.heap.size <= l -> W.heap[l]? = some o -> o.isCells = false -> I s (W.putObj l o') := fun {s W l o} o' hs hB hl ho => hI _ _ _ (some l) hs (grownBy_putObj' W l o') (fun r e => by cases e; exact .inr ⟨hB, o, hl, ho⟩)
 have hI1 : I [] W1 := by rw [<- hW1]; exact hIa _ (hIa _ h0)
 have hb1 : Below w.heap.size w W1 := by
  rw [<- hW1]; exact ((Below.refl _ w).alloc (Nat.le_refl _) _).alloc (by simp) _
 refine ⟨w.heap.size + 1, [{ target := .collected w.heap.size, args := #[] }], W1, { target := .fn (.func gf) lb, args := #[.func (.yield (w.heap.size + 1)) #[] #[]] }, W1, gf,
  #[.func (.yield (w.heap.size + 1)) #[] #[]] ++ lb, W1, ?_, ?_, ?_, ?_, fun _ => h1, ?_⟩
 ·rw [<- hW1, hrec]; exact run_enterLoop_outer _ _ _ _ _
 ·simp only [resolve, hg]
  simp [go_sem]
 ·intro f' hf'; simp [Target.leads] at hf'; subst hf'; exact hFg
 ·simp [invoke, go_sem, eg]
 ·refine (hseq (w.heap.size + 1)
   (fun pre W => I pre W /\ W.heap[w.heap.size + 1]? = some (.loop (rec .ready none)) /\ W.heap[w.heap.size]? = some (.deferred (some [])))
   W1 hb1
   (fun s A B row hs hg' hr => ⟨hI s A B row hs.1 hg' (fun r e => .inl (hr r e)),
    grown_block hg' hs.2.1 (fun e => by have := hr _ e.symm; omega), grown_block hg' hs.2.2 (fun e => by have := hr _ e.symm; omega)⟩)
   ?_ ⟨hI1, hL1, hK1⟩).mono ?_
  ·rintro pre x W ⟨hi, hl, hk⟩ hnx
   have hlt : w.heap.size + 1 < W.heap.size := (Array.getElem?_eq_some_iff.1 hl).1;have hy := run_yield (P := P) (args := encs x) hl (by rw [hrec]; exact hps x);rw [hrec] at hy;refine ⟨fn, _, assign, body, hy, roundIn_of_wpIn hfn (hassign _ x W _ ⟨_, run_beginRound hl (by rw [hrec]), ?_⟩)⟩;have hl2 : (W.putObj (w.heap.size + 1) (.loop { rec .ready none with state := .busy })).heap[w.heap.size + 1]? = some (.loop { rec .ready none with state := .busy }) := World.putObj_heap_same hlt;have hk2 : (W.putObj (w.heap.size + 1) (.loop { rec .ready none with state := .busy })).heap[w.heap.size]? = some (.deferred (some [])) := (World.putObj_heap_other (by omega)).trans hk;have hw2 : Kp W (W.putObj (w.heap.size + 1) (.loop { rec .ready none with state := .busy })) := hKb _ _ _ _ (by omega) hl rfl;refine wpIn_mono (hbody _ pre x _ (hIp _ hi (by omega) hl rfl) (hNx _ _ _ _ _ _ hnx (by omega) hl rfl)) ?_;have fin : ∀ (W3 : World), KeepsOthers (W.putObj (w.heap.size + 1) (.loop { rec .ready none with state := .busy })) W3 ->
     (Instr.endRound (w.heap.size + 1) none).run P W3 = .ok (.bool true) (W3.putObj (w.heap.size + 1) (.loop (rec .ready none))) /\
     W3.heap[w.heap.size + 1]? = some (.loop { rec .ready none with state := .busy }) /\
     (W3.putObj (w.heap.size + 1) (.loop (rec .ready none))).heap[w.heap.size + 1]? = some (.loop (rec .ready none)) /\
     (W3.putObj (w.heap.size + 1) (.loop (rec .ready none))).heap[w.heap.size]? = some (.deferred (some [])) := fun W3 hk3 => by
    have hl3 := hk3.same _ _ hl2 rfl;have := run_endRound (P := P) none hl3;rw [hrec] at this ⊢;exact ⟨this, by rw [hrec] at hl3; exact hl3, World.putObj_heap_same (Array.getElem?_eq_some_iff.1 hl3).1, (World.putObj_heap_other (by omega)).trans (hk3.same _ _ hk2 rfl)⟩
   rintro e a3 W3 hp;cases e with
   | normal =>
    obtain ⟨hk3, hkp3, hi3⟩ := hp;obtain ⟨hr, hl3, hl4, hk4⟩ := fin W3 hk3;exact ⟨_, _, hr, rfl, ⟨hIp _ hi3 (by omega) hl3 rfl, hl4, hk4⟩, hKt (hKt hw2 hkp3) (hKb _ _ _ _ (by omega) hl3 rfl)⟩
   | ret => exact hp.2.elim
   | exit id => exact hp.2.elim
   | goto t => exact hp.2.elim
   | panic ch => exact hp.elim
   | outgrown => exact hp.elim
  ·rintro e W2 ⟨⟨v, rfl⟩, xs, hSx, hi, hl, hk⟩
   exact ⟨none, _, by have := run_endLoop (P := P) hl (by rw [hrec]; simp); rw [hrec] at this; exact this, hdone _ xs _ (Nat.le_refl _) (hS _ _ _ _ _ hSx (by omega) hl rfl) (hIp _ hi (by omega) hl rfl) ((World.putObj_heap_other (by omega)).trans hk)⟩
end Go.Proofs.YthpckmcgbmfmcaaGreatDoor
namespace Go.Proofs.YthpckmcgbmfmcaaGreatDoor
open Go.RowKit Go.Sort Go.Shelf
attribute [local go_sem] Oper.semAt_some
abbrev lit.Rw := Nat × Nat
def lit.rowEnc (x : lit.Rw) : Array Value := #[.int .i64 0, .slice (some ⟨x.1, 0, none⟩) 1 x.2]
def lit.rowNx (base : Nat) (c : C4) (pre : List lit.Rw) (x : lit.Rw) (W : World) : Prop := pre = [] /\ OwnC base W (.slice (some ⟨x.1, 0, none⟩) 1 x.2) [c]
def lit.rowEnd (pre : List lit.Rw) (_ : World) : Prop := pre.length = 1
theorem rows1_in (n l bx g cb cc base0 : Nat) (c : C4) (J : List lit.Rw -> World -> Prop) (gb : Nat) (hJ : ∀ s A B row, J s A -> A.grownBy B row -> (∀ r, row = some r -> r = gb) -> J s B)
  (w : World) (hY : ∀ pre x W1, J pre W1 -> lit.rowNx w.heap.size c pre x W1 -> YieldAt Fence.wide (n - 1) Tryz.prog l (lit.rowEnc x) W1 fun e W' => e = .returned (.bool true) /\ J (pre ++ [x]) W' /\ True)
  (hb : w.heap[bx]? = some (.cells #[.pointer (some ⟨g, 0, none⟩)] 79 (0, 0))) (hg : GridAt base0 w g 1 1 [c] cb cc) (h0 : J [] w) :
  CallsIn Fence.wide n Tryz.prog 86 #[.func (.yield l) #[] #[], .pointer (some ⟨bx, 0, none⟩)] w fun e W' => (∃ v, e = .returned v) /\ ∃ xs, lit.rowEnd xs W' /\ J xs W' := by
 have HY := hd_ hY;have HJ := hd_ hJ;have H0 := hd_ h0;have HG := hd_ hg;have kb := (cr_ w 0 hb (Value.pointer (some ⟨g, 0, none⟩)) rfl);have g0 := (cr_ w 0 hg.head (Value.int .i64 1) rfl);have g2 := (cr_ w 2 hg.head (Value.slice (some ⟨cb, 0, none⟩) 1 cc) rfl);have hoc : OwnC base0 w (.slice (some ⟨cb, 0, none⟩) 1 cc) [c] := hg.cells;obtain ⟨_, _, ee, hcc1, hq2, hrd, hq3⟩ := hoc.rd;clear hq2 hq3;simp only [Value.slice.injEq] at ee;obtain ⟨rfl, hq1, rfl⟩ := ee;clear hq1;have HRD := hd_ hrd;have hcc2 : (1 : Int) <= (cc : Int) := by have : 1 <= cc := hcc1; omega
 have hcc3 : ¬ cc = 0 := by omega
 have CH := hd_ (gridH_any hg);clear hY hJ h0 hg hb hoc hrd hcc1;refine callsIn_of_wp Tryz.func86 rfl trivial ?_ rfl;simp only [Tryz.ntmps86, List.size_toArray, List.length_cons, List.length_nil, Nat.reduceAdd, Nat.reduceSub, Array.replicate_succ, Array.replicate_zero, List.push_toArray, List.append_toArray, List.nil_append, List.cons_append];refine wpIn_wide.2 ?_;go_wp2_with fail
 refine CH.out.mono ?_;rintro e w1 ⟨rfl, rfl⟩;go_wp2_with fail
 refine wp_loop_rounds 2 ?_;rw [rounds_succ];go_upto_region 3 with (fail)
 refine (wpIn_wide (n := n)).1 ?_;refine wpIn_region_any (by kernel_rfl) ?_;refine wpAnyIn_laid_tails (fun h h' => oper_wide h h') (D := fun i => ([9, 10, 11, 12, 13, 14, 15, 16, 17, 18, 19, 20, 21, 22, 23, 24, 25, 26, 27, 28, 29] : List Nat).getD i 0)
  (R := fun rj v w' => match rj with
   | 0 => v = .func (.yield l) #[] #[]
   | 1 => v = .int .i64 0
   | 2 => v = .pointer (some ⟨g, 0, none⟩)
   | 3 => v = .pointer (some ⟨g, 0, none⟩)
   | 4 => v = .pointer (some ⟨g, 2, none⟩)
   | 5 => v = .slice (some ⟨cb, 0, none⟩) 1 cc
   | 6 => v = .int .i64 0
   | 7 => v = .pointer (some ⟨g, 0, none⟩)
   | 8 => v = .pointer (some ⟨g, 0, none⟩)
   | 9 => v = .pointer (some ⟨g, 0, none⟩)
   | 10 => v = .int .i64 1
   | 11 => v = .int .i64 0
   | 12 => v = .int .i64 0
   | 13 => v = .int .i64 1
   | 14 => v = .pointer (some ⟨g, 0, none⟩)
   | 15 => v = .pointer (some ⟨g, 0, none⟩)
   | 16 => v = .pointer (some ⟨g, 0, none⟩)
   | 17 => v = .int .i64 1
   | 18 => v = .int .i64 1
   | 19 => v = .slice (some ⟨cb, 0, none⟩) 1 cc
   | 20 => ∃ b2 c2, v = .slice (some ⟨b2, 0, none⟩) 1 c2 /\ OwnC w1.heap.size w' (.slice (some ⟨b2, 0, none⟩) 1 c2) [c]
   | _ => True)
  (S := fun a' w' => (a'.tmps[0]? = some (.func (.yield l) #[] #[]) /\ a'.tmps[1]? = some (.pointer (some ⟨bx, 0, none⟩)) /\ a'.tmps[3]? = some (.int .i64 0)) /\ Below w1.heap.size w1 w')
  21 (by decide) (by kernel_rfl) (by decide +kernel) (by decide +kernel) (by decide +kernel) (by decide +kernel) (by kernel_rfl) ?_ ?_ (by kernel_rfl) ?_ ?_
 ·intro i v u u' h hb
  match i, h with
  | 0, h => exact h
  | 1, h => exact h
  | 2, h => exact h
  | 3, h => exact h
  | 4, h => exact h
  | 5, h => exact h
  | 6, h => exact h
  | 7, h => exact h
  | 8, h => exact h
  | 9, h => exact h
  | 10, h => exact h
  | 11, h => exact h
  | 12, h => exact h
  | 13, h => exact h
  | 14, h => exact h
  | 15, h => exact h
  | 16, h => exact h
  | 17, h => exact h
  | 18, h => exact h
  | 19, h => exact h
  | 20, h => exact by obtain ⟨b2, c2, h1, h2⟩ := h; exact ⟨b2, c2, h1, h2.below hb⟩
  | i + 21, _ => trivial
 ·intro a' u hb _ hold
  exact ⟨⟨hold 0 (by decide), hold 1 (by decide), hold 3 (by decide)⟩, hb⟩
 ·refine ⟨?_, ?_, ?_, ?_, ?_, ?_, ?_, ?_, ?_, ?_, ?_, ?_, ?_, ?_, ?_, ?_, ?_, ?_, ?_, ?_, ?_, trivial⟩
  ·intro a' u hS hd
   clear hd;have g0 := hS.1.1;go_simp
   exact ⟨_, rfl, rfl, Below.refl _ _⟩
  ·intro a' u hS hd
   clear hd;have g0 := hS.1.2.2;go_simp
   exact ⟨_, rfl, rfl, Below.refl _ _⟩
  ·intro a' u hS hd
   clear hd;have g0 := hS.1.2.1;have x0 := keep_cell hS.2 kb;go_simp
   exact ⟨_, rfl, rfl, Below.refl _ _⟩
  ·intro a' u hS hd
   obtain ⟨_, e0, rfl⟩ := hd 2 (by kernel_rfl);have f0 : a'.tmps[11]? = some _ := e0;clear e0;clear hd;go_simp
   exact ⟨_, rfl, rfl, Below.refl _ _⟩
  ·intro a' u hS hd
   obtain ⟨_, e0, rfl⟩ := hd 3 (by kernel_rfl);have f0 : a'.tmps[12]? = some _ := e0;clear e0;clear hd;go_simp
   exact ⟨_, rfl, rfl, Below.refl _ _⟩
  ·intro a' u hS hd
   obtain ⟨_, e0, rfl⟩ := hd 4 (by kernel_rfl);have f0 : a'.tmps[13]? = some _ := e0;clear e0;clear hd;have x0 := keep_cell hS.2 g2;go_simp
   exact ⟨_, rfl, rfl, Below.refl _ _⟩
  ·intro a' u hS hd
   clear hd;have g0 := hS.1.2.2;go_simp
   exact ⟨_, rfl, rfl, Below.refl _ _⟩
  ·intro a' u hS hd
   clear hd;have g0 := hS.1.2.1;have x0 := keep_cell hS.2 kb;go_simp
   exact ⟨_, rfl, rfl, Below.refl _ _⟩
  ·intro a' u hS hd
   obtain ⟨_, e0, rfl⟩ := hd 7 (by kernel_rfl);have f0 : a'.tmps[16]? = some _ := e0;clear e0;clear hd;go_simp
   exact ⟨_, rfl, rfl, Below.refl _ _⟩
  ·intro a' u hS hd
   obtain ⟨_, e0, rfl⟩ := hd 8 (by kernel_rfl);have f0 : a'.tmps[17]? = some _ := e0;clear e0;clear hd;go_simp
   exact ⟨_, rfl, rfl, Below.refl _ _⟩
  ·intro a' u hS hd
   obtain ⟨_, e0, rfl⟩ := hd 9 (by kernel_rfl);have f0 : a'.tmps[18]? = some _ := e0;clear e0;clear hd;have x0 := keep_cell hS.2 g0;go_simp
   exact ⟨_, rfl, rfl, Below.refl _ _⟩
  ·intro a' u hS hd
   obtain ⟨_, e0, rfl⟩ := hd 6 (by kernel_rfl);have f0 : a'.tmps[15]? = some _ := e0;clear e0;obtain ⟨_, e1, rfl⟩ := hd 10 (by kernel_rfl);have f1 : a'.tmps[19]? = some _ := e1;clear e1;clear hd;go_simp
   exact ⟨_, rfl, rfl, Below.refl _ _⟩
  ·intro a' u hS hd
   clear hd;have g0 := hS.1.2.2;go_simp
   exact ⟨_, rfl, rfl, Below.refl _ _⟩
  ·intro a' u hS hd
   obtain ⟨_, e0, rfl⟩ := hd 12 (by kernel_rfl);have f0 : a'.tmps[21]? = some _ := e0;clear e0;clear hd;go_simp
   exact ⟨_, rfl, rfl, Below.refl _ _⟩
  ·intro a' u hS hd
   clear hd;have g0 := hS.1.2.1;have x0 := keep_cell hS.2 kb;go_simp
   exact ⟨_, rfl, rfl, Below.refl _ _⟩
  ·intro a' u hS hd
   obtain ⟨_, e0, rfl⟩ := hd 14 (by kernel_rfl);have f0 : a'.tmps[23]? = some _ := e0;clear e0;clear hd;go_simp
   exact ⟨_, rfl, rfl, Below.refl _ _⟩
  ·intro a' u hS hd
   obtain ⟨_, e0, rfl⟩ := hd 15 (by kernel_rfl);have f0 : a'.tmps[24]? = some _ := e0;clear e0;clear hd;go_simp
   exact ⟨_, rfl, rfl, Below.refl _ _⟩
  ·intro a' u hS hd
   obtain ⟨_, e0, rfl⟩ := hd 16 (by kernel_rfl);have f0 : a'.tmps[25]? = some _ := e0;clear e0;clear hd;have x0 := keep_cell hS.2 g0;go_simp
   exact ⟨_, rfl, rfl, Below.refl _ _⟩
  ·intro a' u hS hd
   obtain ⟨_, e0, rfl⟩ := hd 13 (by kernel_rfl);have f0 : a'.tmps[22]? = some _ := e0;clear e0;obtain ⟨_, e1, rfl⟩ := hd 17 (by kernel_rfl);have f1 : a'.tmps[26]? = some _ := e1;clear e1;clear hd;go_simp
   exact ⟨_, rfl, rfl, Below.refl _ _⟩
  ·intro a' u hS hd
   obtain ⟨_, e0, rfl⟩ := hd 5 (by kernel_rfl);have f0 : a'.tmps[14]? = some _ := e0;clear e0;obtain ⟨_, e1, rfl⟩ := hd 11 (by kernel_rfl);have f1 : a'.tmps[20]? = some _ := e1;clear e1;obtain ⟨_, e2, rfl⟩ := hd 18 (by kernel_rfl);have f2 : a'.tmps[27]? = some _ := e2;clear e2;clear hd;go_simp
   exact ⟨_, rfl, rfl, Below.refl _ _⟩
  ·intro a' u hS hd
   obtain ⟨_, e0, rfl⟩ := hd 19 (by kernel_rfl);have f0 : a'.tmps[28]? = some _ := e0;clear e0;clear hd;go_simp
   refine (cloneC_any cb 0 cc [c] u (HRD.out.below hS.2) (by simp) (by simp)).mono ?_;rintro e u' ⟨b2, c2, rfl, _, hoo, hb⟩;exact ⟨_, rfl, ⟨b2, c2, rfl, World.ownsRow.mono hoo hS.2.size⟩, hb⟩
 ·intro a' u h
  obtain ⟨_, e9, rfl⟩ := h.new 0 (by decide) (by decide +kernel);replace e9 : a'.tmps[9]? = some (.func (.yield l) #[] #[]) := e9;obtain ⟨_, e10, rfl⟩ := h.new 1 (by decide) (by decide +kernel);replace e10 : a'.tmps[10]? = some (.int .i64 0) := e10;obtain ⟨_, e29, b2, c2, rfl, ho2⟩ := h.new 20 (by decide) (by decide +kernel);replace e29 : a'.tmps[29]? = some (.slice (some ⟨b2, 0, none⟩) 1 c2) := e29;have e0 : a'.tmps[0]? = some (.func (.yield l) #[] #[]) := h.old 0 (by decide);have e1 : a'.tmps[1]? = some (.pointer (some ⟨bx, 0, none⟩)) := h.old 1 (by decide);have e3 : a'.tmps[3]? = some (.int .i64 0) := h.old 3 (by decide);have e4 : a'.tmps[4]? = some (.pointer (some ⟨g, 0, none⟩)) := h.old 4 (by decide);have e5 : a'.tmps[5]? = some (.int .i64 1) := h.old 5 (by decide);have e6 : a'.tmps[6]? = some (.int .i64 0) := h.old 6 (by decide);have hsz : a'.tmps.size = 33 := h.size;have hdf : a'.defers = [] := h.defers;have hbu := h.below;clear h;obtain ⟨tmps, defers⟩ := a';simp only at hsz hdf e0 e1 e3 e4 e5 e6 e9 e10 e29;subst hdf;obtain ⟨ll⟩ := tmps
  match ll, hsz with
  | y0 :: y1 :: y2 :: y3 :: y4 :: y5 :: y6 :: y7 :: y8 :: y9 :: y10 :: y11 :: y12 :: y13 :: y14 :: y15 :: y16 :: y17 :: y18 :: y19 :: y20 :: y21 :: y22 :: y23 :: y24 :: y25 :: y26 :: y27 :: y28 :: y29 :: y30 :: y31 :: y32 :: [], _ =>
   obtain rfl : y0 = .func (.yield l) #[] #[] := (by simpa using e0);obtain rfl : y1 = .pointer (some ⟨bx, 0, none⟩) := (by simpa using e1);obtain rfl : y3 = .int .i64 0 := (by simpa using e3);obtain rfl : y4 = .pointer (some ⟨g, 0, none⟩) := (by simpa using e4);obtain rfl : y5 = .int .i64 1 := (by simpa using e5);obtain rfl : y6 = .int .i64 0 := (by simpa using e6);obtain rfl : y9 = .func (.yield l) #[] #[] := (by simpa using e9);obtain rfl : y10 = .int .i64 0 := (by simpa using e10);obtain rfl : y29 = .slice (some ⟨b2, 0, none⟩) 1 c2 := (by simpa using e29);clear e0 e1 e3 e4 e5 e6 e9 e10 e29;have HJu := hd_ (HJ.out _ _ _ none H0.out (grown_of_below hbu) (fun r e => by cases e));obtain ⟨fn, tm, asg, bd, hy, hR⟩ := HY.out [] (b2, c2) u HJu.out ⟨rfl, ho2⟩;have HYR := hd_ hR;have hen : lit.rowEnc (b2, c2) = #[.int .i64 0, .slice (some ⟨b2, 0, none⟩) 1 c2] := rfl;rw [hen] at hy;clear hR hbu ho2 hen kb g0 g2;gi_wp2
   refine ⟨fun h => by simp [Fence.wide] at h, ?_⟩;refine HYR.out.mono ?_;rintro e W3 ⟨rfl, hJ3, _⟩;have HJ3 := hd_ hJ3;clear hJ3 HYR hy;gi_wp2
   go_wp2_with fail
   rw [rounds_succ];go_wp2_with fail
   go_end0
   exact ⟨⟨_, rfl⟩, [(b2, c2)], rfl, HJ3.out⟩
theorem rows1_seq (n bx g cb cc base0 : Nat) (c : C4) (gb : Nat) (w : World) (hb : w.heap[bx]? = some (.cells #[.pointer (some ⟨g, 0, none⟩)] 79 (0, 0))) (hg : GridAt base0 w g 1 1 [c] cb cc) :
  SeqCurN Fence.wide n Tryz.prog 86 #[.pointer (some ⟨bx, 0, none⟩)] lit.rowEnc gb (fun _ _ => True) (lit.rowNx w.heap.size c) lit.rowEnd w := fun l J W hW hJ hY h0 =>
 rows1_in n l bx g cb cc base0 c J gb hJ W (fun pre x W1 hj hn => hY pre x W1 hj ⟨hn.1, World.ownsRow.mono hn.2 hW.size⟩) ((hW.block _ (block_lt hb)).trans hb) (hg.below hW) h0
theorem rowsOf_any (g : Nat) (w : World) :
  Calls Tryz.prog 41 #[.pointer (some ⟨g, 0, none⟩)] w fun e w' => e = .returned (.func (.func 86) #[] #[.pointer (some ⟨w.heap.size, 0, none⟩)]) /\
   w.alloc (.cells #[.pointer (some ⟨g, 0, none⟩)] 79) = w' := by
 go_enter Tryz.func41, Tryz.ntmps41
 go_wp2
 go_ret
 exact ⟨rfl, rfl⟩
end Go.Proofs.YthpckmcgbmfmcaaGreatDoor
