/- A range over a function whose elements lie in memory that the function has made: the statement and one round of it, apart. No program in sight. -/
import Derived.Test.YtfaemhmefijaoaaDoorCkBase
import Derived.RangeFuncFrom
namespace Go.Proofs.YtfaemhmefijaoaaDoor
open Go.RowKit

section
variable {F : Fence} {n : Nat} {P : Program}
/-- the loop's record, as it stands at the state st with the jump pe pending -/
def theLoop (fn : FuncId) (tmps : Array Value) (ps : Array Tmp) (assign body : Code) (D : Nat) (st : LoopState) (pe : Option Code) : Obj := .loop { state := st, pending := pe, fn := fn, tmps := tmps, params := ps, assign := assign, body := body, defers := D }
/-- the two blocks of the loop's own lie as a round finds them -/
def LoopAt (W : World) (l D : Nat) (o : Obj) : Prop := W.heap[l]? = some o ∧ W.heap[D]? = some (.deferred (some []))
theorem LoopAt.grown {W W' : World} {l D : Nat} {o : Obj} {row : Option Nat} (h : LoopAt W l D o) (hg : W.grownBy W' row) (h1 : some l ≠ row) (h2 : some D ≠ row) : LoopAt W' l D o :=
  ⟨grown_block hg h.1 h1, grown_block hg h.2 h2⟩

/-- where the iterator stands when it has come to its end, or a round has left -/
def RangeDone (F : Fence) (n : Nat) (P : Program) (Q : Exit → Act → World → Prop) (a : Act) (l D : Nat) (rec : LoopState → Option Code → Obj) (W : World) : Prop :=
  (LoopAt W l D (rec .ready none) ∧ Q .normal { a with defers := { target := .collected D, args := #[] } :: a.defers } (W.putObj l (rec .exhausted none))) ∨
  ∃ c, LoopAt W l D (rec .done (some c)) ∧ c.wpIn F n P Q { a with defers := { target := .collected D, args := #[] } :: a.defers } (W.putObj l (rec .exhausted (some c)))

/-- THE STATEMENT, out of what the iterator does with this loop's own yield -/
theorem rangeFunc_enter {g : Operand} {ps : Array Tmp} {assign body : Code} {Q : Exit → Act → World → Prop} {a : Act} {w : World}
    (hro : F.round = none) (h1 : 1 ≤ n) {gf : Nat} {lb : Array Value} (hg : a.eval g = .func (.func gf) #[] lb) (hFg : F.fn gf) (eg : ∀ args w, (callFunc gf args).run P w = .ok (.enter gf args) w)
    (h : ∀ fn, F.fn fn → CallsIn F (n - 1) P gf (#[.func (.yield (w.heap.size + 1)) #[] #[]] ++ lb) ((w.alloc (.deferred (some []))).alloc (theLoop fn a.tmps ps assign body w.heap.size .ready none))
      fun e W => (∃ v, e = .returned v) ∧ RangeDone F n P Q a (w.heap.size + 1) w.heap.size (theLoop fn a.tmps ps assign body w.heap.size) W) :
    (Code.rangeFunc g ps assign body).wpIn F n P Q a w := by
  refine wpIn_rangeFunc ?_
  intro fn hfn
  rw [hro]
  have hc := h fn hfn
  have he := run_enterLoop_outer (P := P) (w := w) fn a.tmps ps assign body
  change (Instr.enterLoop fn a.tmps ps assign body none).run P w = .ok (w.heap.size + 1, [{ target := .collected w.heap.size, args := #[] }]) ((w.alloc (.deferred (some []))).alloc (theLoop fn a.tmps ps assign body w.heap.size .ready none)) at he
  generalize (w.alloc (.deferred (some []))).alloc (theLoop fn a.tmps ps assign body w.heap.size .ready none) = W1 at *
  refine ⟨w.heap.size + 1, [{ target := .collected w.heap.size, args := #[] }], W1, { target := .fn (.func gf) lb, args := #[.func (.yield (w.heap.size + 1)) #[] #[]] }, W1, gf, #[.func (.yield (w.heap.size + 1)) #[] #[]] ++ lb, W1, he, ?_, ?_, ?_, ?_, ?_⟩
  · simp only [resolve, hg]
    simp [go_sem]
  · intro f' hf'
    simp [Target.leads] at hf'
    subst hf'
    exact hFg
  · simp [invoke, go_sem, eg]
  · exact fun _ => h1
  · refine hc.mono ?_
    rintro e W ⟨⟨v, rfl⟩, hd⟩
    rcases hd with ⟨⟨hl, _⟩, hq⟩ | ⟨c, ⟨hl, _⟩, hq⟩
    · exact ⟨none, _, run_endLoop hl (by simp), hq⟩
    · exact ⟨some c, _, run_endLoop hl (by simp), hq⟩

/-- how a round's body may be left -/
def roundLeft (R : Option Code → World → Prop) : Exit → Act → World → Prop
  | .normal, _, W => R none W
  | .ret, _, W => R (some .ret) W
  | .exit id, _, W => R (some (.exit id)) W
  | _, _, _ => False
/-- ONE ROUND, out of its body's walk -/
theorem yield_round {fn : FuncId} {tmps : Array Value} {ps : Array Tmp} {assign body : Code} {l D : Nat} {args : Array Value} {W W₁ : World} {a₁ : Act} {R : Ending → World → Prop} (hF : F.fn fn)
    (hl : LoopAt W l D (theLoop fn tmps ps assign body D .ready none)) (hs : args.size = ps.size)
    (hl₁ : LoopAt W₁ l D (theLoop fn tmps ps assign body D .ready none)) (hassign : ∀ K : Act → World → Prop, K a₁ W₁ → assign.wpIn (F.inRound l) n P (Exit.then K (fun _ _ _ => False)) { tmps := (ps.zip args).foldl (fun t (p, v) => t.setIfInBounds p v) tmps, defers := [] } W)
    (hbody : body.wpIn (F.inRound l) n P (roundLeft fun pe W' => LoopAt W' l D (theLoop fn tmps ps assign body D .busy none) ∧
      R (.returned (.bool pe.isNone)) (W'.putObj l (theLoop fn tmps ps assign body D (if pe.isNone then .ready else .done) pe))) a₁ (W₁.putObj l (theLoop fn tmps ps assign body D .busy none))) :
    YieldAt F n P l args W R := by
  refine ⟨fn, _, assign, body, run_yield hl.1 hs, roundIn_of_wpIn hF (hassign _ ⟨_, run_beginRound hl₁.1 rfl, wpIn_mono hbody ?_⟩)⟩
  rintro e a W' hp
  cases e with
  | normal => exact ⟨_, _, run_endRound none hp.1.1, hp.2⟩
  | ret => exact ⟨_, _, run_endRound (some .ret) hp.1.1, hp.2⟩
  | exit id => exact ⟨_, _, run_endRound (some (.exit id)) hp.1.1, hp.2⟩
  | goto t => exact hp.elim
  | panic c => exact hp.elim
  | outgrown => exact hp.elim
theorem LoopAt.put {W : World} {l D : Nat} {o : Obj} (h : LoopAt W l D o) (hne : D ≠ l) (o' : Obj) : LoopAt (W.putObj l o') l D o' :=
  ⟨World.putObj_heap_same (block_lt h.1), (World.putObj_heap_other hne).trans h.2⟩

/-- a whole row read, or written, within a round -/
theorem wpListR_load_row {l : Nat} {ops : Array Oper} {rest : List Oper} {o : Oper} {a : Act} {w : World} {Q : Exit → Act → World → Prop} (hgd : o.guard = none) (ty : TypeId) (x : Operand) (ho : o.op = .load ty x)
    (g : Nat) (hx : a.eval x = .pointer (some ⟨g, 0, none⟩)) (t : TypeId) (cs : Array Value) (fr : Nat × Nat) (d : TypeDesc) (hg : w.heap[g]? = some (.cells cs t fr))
    (hu : P.underlying ty = some d) (hd : (match d with | .struct _ | .array _ _ => true | _ => false) = true) (hi : (P.info? ty).map (·.size) = some cs.size)
    (h : wpListIn (Fence.wide.inRound l) n P ops Q rest (a.put o.dst (.agg cs)) w) : wpListIn (Fence.wide.inRound l) n P ops Q (o :: rest) a w :=
  wpListIn_plain hgd fun _ hK => oper_round (by unfold noDefer; rw [ho]) (wp_load_row ty x ho g hx t cs fr d hg hu hd hi (hK _ _ h))
theorem wpListR_store_row {l : Nat} {ops : Array Oper} {rest : List Oper} {o : Oper} {a : Act} {w : World} {Q : Exit → Act → World → Prop} (hgd : o.guard = none) (ty : TypeId) (x y : Operand) (ho : o.op = .store ty x y)
    (g : Nat) (cs : Array Value) (hx : a.eval x = .pointer (some ⟨g, 0, none⟩)) (hy : a.eval y = .agg cs) (t : TypeId) (old : Array Value) (hg : w.heap[g]? = some (.cells old t (0, 0)))
    (hi : (P.info? ty).map (·.size) = some cs.size) (hs : old.size = cs.size) (h1 : cs.all (·.oneCell') = true)
    (h : wpListIn (Fence.wide.inRound l) n P ops Q rest (a.put o.dst undef) (w.setRow g cs)) : wpListIn (Fence.wide.inRound l) n P ops Q (o :: rest) a w :=
  wpListIn_plain hgd fun _ hK => oper_round (by unfold noDefer; rw [ho]) (wp_store_row ty x y ho g cs hx hy t old hg hi hs h1 (hK _ _ h))
end
end Go.Proofs.YtfaemhmefijaoaaDoor
