/- Single operations under the laws of regions that make memory, more of them. No program in sight. -/
import Derived.Test.YtfaemhmefijaoaaDoorOpLaid
import Derived.Test.YtfaemhmefijaoaaDoorRegionTails
import Derived.Deep.MidRow
namespace Go.Proofs.YtfaemhmefijaoaaDoor
open Go.RowKit Go.Shelf

section
variable {P : Program} {Q : Exit → Act → World → Prop} {S : Act → World → Prop} {D : Nat → Nat} {R : Nat → Value → World → Prop} {n : Nat} {o : Oper}
/-- what j has left is at hand -/
def Waits (o : Oper) (j : Nat) : Prop := o.after.any (fun e => e.on == j && Region.binds .any e) = true

theorem od_val (V : Value) (h : ∀ a w, S a w → (∀ j, Waits o j → ∃ v, a.tmps[D j]? = some v ∧ R j v w) → (execOp a.eval o).run P w = .ok (.value V) w) (hR : ∀ w, R n V w) : OpDoes P Q S D R n o := by
  intro a w hS hd
  unfold Oper.wp
  rw [h a w hS hd]
  exact ⟨_, rfl, hR w, Below.refl _ _⟩
theorem od_move_dep (j t : Nat) (ho : o.op = .move (.tmp t)) (hj : Waits o j) (hD : D j = t) (hR : ∀ v w, R j v w → R n v w) : OpDoes P Q S D R n o := by
  intro a w _ hd
  obtain ⟨v, e, hv⟩ := hd j hj
  rw [hD] at e
  have hrun : (execOp a.eval o).run P w = .ok (.value v) w := by
    unfold execOp
    simp only [ho, eval_tmp e]
    rfl
  unfold Oper.wp
  rw [hrun]
  exact ⟨_, rfl, hR v w hv, Below.refl _ _⟩
theorem od_assign_dep (j t : Nat) (ho : o.op = .assign (.tmp t)) (hj : Waits o j) (hD : D j = t) (hR : ∀ v w, R j v w → R n v w) : OpDoes P Q S D R n o := by
  intro a w _ hd
  obtain ⟨v, e, hv⟩ := hd j hj
  rw [hD] at e
  have hrun : (execOp a.eval o).run P w = .ok (.value v) w := by
    unfold execOp
    simp only [ho, eval_tmp e]
    rfl
  unfold Oper.wp
  rw [hrun]
  exact ⟨_, rfl, hR v w hv, Below.refl _ _⟩
theorem od_extract (j t i : Nat) (vs : Array Value) (x : Value) (ho : o.op = .extract (.tmp t) i) (hj : Waits o j) (hD : D j = t) (hv : ∀ v w, R j v w → v = .tuple vs) (hx : vs[i]? = some x) (hR : ∀ w, R n x w) : OpDoes P Q S D R n o := by
  intro a w _ hd
  obtain ⟨v, e, h⟩ := hd j hj
  rw [hD, hv v w h] at e
  have hrun : (execOp a.eval o).run P w = .ok (.value x) w := by
    unfold execOp
    simp only [ho, eval_tmp e]
    simp [Instr.extract, hx]
  unfold Oper.wp
  rw [hrun]
  exact ⟨_, rfl, hR w, Below.refl _ _⟩
end
end Go.Proofs.YtfaemhmefijaoaaDoor
