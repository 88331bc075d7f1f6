/- Single operations under the laws of regions that make memory. No program in sight. -/
import Derived.Test.YtfaemhmefijaoaaDoorRegionTail
import Derived.Shelf.Abstract
import Derived.Laws.Rows
namespace Go.Proofs.YtfaemhmefijaoaaDoor
open Go.RowKit Go.Shelf

section
variable {P : Program} {Q : Exit → Act → World → Prop} {S : Act → World → Prop} {D : Nat → Nat} {R : Nat → Value → World → Prop} {n : Nat} {o : Oper}
theorem eval_tmp {a : Act} {t : Nat} {v : Value} (h : a.tmps[t]? = some v) : a.eval (.tmp t) = v := by simp [Act.eval, h]

theorem od_move (t : Nat) (V : Value) (ho : o.op = .move (.tmp t)) (hS : ∀ a w, S a w → a.tmps[t]? = some V) (hR : ∀ w, R n V w) : OpDoes P Q S D R n o := by
  intro a w h _
  have e := eval_tmp (hS a w h)
  have hrun : (execOp a.eval o).run P w = .ok (.value V) w := by
    unfold execOp
    simp only [ho, e]
    rfl
  unfold Oper.wp
  rw [hrun]
  exact ⟨_, rfl, hR w, Below.refl _ _⟩
theorem od_load_row (t g : Nat) (T T' : TypeId) (cs : Array Value) (d : TypeDesc) (ho : o.op = .load T (.tmp t))
    (hS : ∀ a w, S a w → a.tmps[t]? = some (.pointer (some ⟨g, 0, none⟩)) ∧ w.heap[g]? = some (.cells cs T' (0, 0))) (hu : P.underlying T = some d)
    (hd : (match d with | .struct _ | .array _ _ => true | _ => false) = true) (hi : (P.info? T).map (·.size) = some cs.size) (hR : ∀ w, R n (.agg cs) w) : OpDoes P Q S D R n o := by
  intro a w h _
  obtain ⟨h1, h2⟩ := hS a w h
  exact wp_load_row _ _ ho g (eval_tmp h1) _ _ _ _ h2 hu hd hi ⟨_, rfl, hR w, Below.refl _ _⟩
theorem wp_call3 {a : Act} {w : World} {K : Act → World → Prop} (t x y z : Nat) (T : Array TypeId) (ho : o.op = .call { callee := .value (.tmp t), args := #[.tmp x, .tmp y, .tmp z], argTypes := T })
    (f : FuncId) (caps : Array Value) (vx vy vz : Value) (et : a.tmps[t]? = some (.func (.func f) #[] caps)) (ex : a.tmps[x]? = some vx) (ey : a.tmps[y]? = some vy) (ez : a.tmps[z]? = some vz) (he : Enters P f)
    {R : Ending → World → Prop} (hc : Calls P f (#[vx, vy, vz] ++ caps) w R) (h : ∀ e w', R e w' → ∃ v, e = .returned v ∧ K (a.put o.dst v) w') : o.wp P a w K Q := by
  have hrun : (execOp a.eval o).run P w = .ok (.enter f (#[vx, vy, vz] ++ caps)) w := by
    have h1 := he (#[vx, vy, vz] ++ caps) w
    unfold execOp
    simp only [ho, resolve, invoke, eval_tmp et, eval_tmp ex, eval_tmp ey, eval_tmp ez, List.map_toArray, List.map_cons, List.map_nil]
    simpa [go_sem] using h1
  unfold Oper.wp
  rw [hrun, Oper.upon_enter]
  exact hc.mono fun e w' hr => by
    obtain ⟨v, rfl, hk⟩ := h e w' hr
    exact hk
end
end Go.Proofs.YtfaemhmefijaoaaDoor
