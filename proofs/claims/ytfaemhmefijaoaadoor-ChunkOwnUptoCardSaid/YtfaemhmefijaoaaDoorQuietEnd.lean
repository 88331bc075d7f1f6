/- Drawn regions, operation by operation: a quiet end, whatever has come up before. No program in sight. -/
import Derived.Test.YtfaemhmefijaoaaDoorQuietTail
namespace Go.Proofs.YtfaemhmefijaoaaDoor
open Go.RowKit Go.Sort

section
variable {P : Program} {ops : Array Oper} {Q : Exit → Act → World → Prop}
theorem wpAny_quiet_end (k fuel : Nat) {listed : Array Bool} {a : Act} {w : World} (hf : fuel = (ops.toList.drop k).length) (hs : Region.noSelect ops = true) (hB : Region.lexFrom .any ops fuel k listed = true)
    (h : wpQuiet P ops (fun w' => ∃ p : Regrown, w' = grow (redrawn w p.d) p.os) (fun a' => ∀ w', (∃ p : Regrown, w' = grow (redrawn w p.d) p.os) → Q .normal a' w') (ops.toList.drop k) a) : wpAny P .any ops Q fuel listed a w := by
  subst hf
  refine wpAny_of_quiet (Q := fun a' => ∀ w', (∃ p : Regrown, w' = grow (redrawn w p.d) p.os) → Q .normal a' w') (fun _ w' hw' h => h w' hw') _ _ _ _ ⟨⟨w.drawn, #[]⟩, by rw [grow_empty]; rfl⟩ ?_
  exact wpAnyQ_lex hs _ k listed a (fun j => by simp [List.getElem?_drop]) hB h
/-- the one operation that may come up -/
theorem wpAny_one (i : Nat) {o : Oper} {fuel : Nat} {listed : Array Bool} {a : Act} {w : World} (ho : ops[i]? = some o) (hr : Region.ready .any ops listed = [i]) (hg : o.guard = none)
    (h : ∀ K : Act → World → Prop, Hid (∀ a w, wpAny P .any ops Q fuel (listed.setIfInBounds i true) a w → K a w) → o.wp P a w K Q) : wpAny P .any ops Q (fuel + 1) listed a w := by
  refine wpAny_all hr (by simp) fun j hj => ?_
  obtain rfl : j = i := by simpa using hj
  have hw : Region.wanted o (yielded ops a.tmps) = true := by simp [Region.wanted, hg]
  unfold wpOp
  simp only [ho, hw, if_true]
  exact .inl (h _ (fun _ _ h => h))
end
end Go.Proofs.YtfaemhmefijaoaaDoor
