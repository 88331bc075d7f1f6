/- Plain arithmetic of samples: depths, greys, luma and chroma. No program in sight. -/
import Derived.KernelRfl
import Derived.Test.YtioeifbobhdccaaGreatDoorM1
import Derived.Shelf.Abstract
import Derived.Laws.Rows
import Derived.Deep.MidRow
namespace Go.Proofs.YtioeifbobhdccaaGreatDoor.tm

/-- which numbers of a depth may not be -/
def upBad (v most : Int) : Prop := most < 1 ∨ 65535 < most ∨ v < 0 ∨ most < v
instance (v most : Int) : Decidable (upBad v most) := by unfold upBad; exact inferInstance
def upV (v most : Int) : Int := if upBad v most then 0 else (65535 * v + most / 2) / most
def upE (v most : Int) : Int := if upBad v most then 2 else 0
def downBad (most : Int) : Prop := most < 1 ∨ 65535 < most
instance (most : Int) : Decidable (downBad most) := by unfold downBad; exact inferInstance
def downV (v most : Int) : Int := if downBad most then 0 else (v * most + 32767) / 65535
def downE (most : Int) : Int := if downBad most then 2 else 0
def clampTo (v top : Int) : Int := if v < 0 then 0 else if top < v then top else v
def luma (r g b : Int) : Int := (19595 * r + 38470 * g + 7471 * b + 32768) / 65536
def far (r g b r' g' b' : Int) : Int := (r - r') * (r - r') + (g - g') * (g - g') + (b - b') * (b - b')

def yy (r g b : Int) : Int := clampTo ((19595 * clampTo r 255 + 38470 * clampTo g 255 + 7471 * clampTo b 255 + 32768) / 65536) 255
def cb (r g b : Int) : Int := clampTo ((-11058 * clampTo r 255 + -21710 * clampTo g 255 + 32768 * clampTo b 255 + 8421376) / 65536) 255
def cr (r g b : Int) : Int := clampTo ((32768 * clampTo r 255 + -27439 * clampTo g 255 + -5329 * clampTo b 255 + 8421376) / 65536) 255
def rr (y _u v : Int) : Int := clampTo (clampTo y 255 + (91881 * (clampTo v 255 - 128) + 32768) / 65536) 255
def gg (y u v : Int) : Int := clampTo (clampTo y 255 - (22554 * (clampTo u 255 - 128) + 46802 * (clampTo v 255 - 128) + 32768) / 65536) 255
def bb (y u _v : Int) : Int := clampTo (clampTo y 255 + (116130 * (clampTo u 255 - 128) + 32768) / 65536) 255

theorem upV_range (v most : Int) : 0 ≤ upV v most ∧ upV v most ≤ 65535 := by
  unfold upV
  split
  · omega
  · rename_i h
    simp only [upBad, not_or] at h
    obtain ⟨h1, h2, h3, h4⟩ := h
    constructor
    · exact Int.ediv_nonneg (by omega) (by omega)
    · apply Int.le_of_lt_add_one
      apply Int.ediv_lt_of_lt_mul (by omega)
      have : 65535 * v ≤ 65535 * most := by omega
      omega
theorem luma_range {r g b : Int} (hr : 0 ≤ r ∧ r ≤ 65535) (hg : 0 ≤ g ∧ g ≤ 65535) (hb : 0 ≤ b ∧ b ≤ 65535) : 0 ≤ luma r g b ∧ luma r g b ≤ 65535 := by
  unfold luma; omega
theorem luma_grey (g : Int) : luma g g g = g := by
  unfold luma; omega
theorem clampTo_range (v : Int) : 0 ≤ clampTo v 255 ∧ clampTo v 255 ≤ 255 := by
  unfold clampTo; split
  · omega
  · split <;> omega

theorem sq_range {r r' : Int} (hr : 0 ≤ r ∧ r ≤ 65535) (hr' : 0 ≤ r' ∧ r' ≤ 65535) : 0 ≤ (r - r') * (r - r') ∧ (r - r') * (r - r') ≤ 4294836225 := by
  rcases Int.le_total 0 (r - r') with h | h
  · have h1 : 0 ≤ (r - r') * (r - r') := Int.mul_nonneg h h
    have h2 : (r - r') * (r - r') ≤ 65535 * 65535 := Int.mul_le_mul (by omega) (by omega) h (by omega)
    exact ⟨h1, by omega⟩
  · have e : (r - r') * (r - r') = (r' - r) * (r' - r) := by
      have : r - r' = -(r' - r) := by omega
      rw [this, Int.neg_mul_neg]
    rw [e]
    have h1 : 0 ≤ (r' - r) * (r' - r) := Int.mul_nonneg (by omega) (by omega)
    have h2 : (r' - r) * (r' - r) ≤ 65535 * 65535 := Int.mul_le_mul (by omega) (by omega) (by omega) (by omega)
    exact ⟨h1, by omega⟩
/-- a number of a depth, made a sample and taken back, is that number again -/
theorem down_up {v most : Int} (h : ¬ upBad v most) : downV (upV v most) most = v := by
  unfold downV upV
  have hd : ¬ downBad most := fun hd => h (by unfold upBad; unfold downBad at hd; omega)
  rw [if_neg h, if_neg hd]
  simp only [upBad, not_or] at h
  obtain ⟨h1, h2, h3, h4⟩ := h
  have hpos : 0 < most := by omega
  have e1 := Int.mul_ediv_add_emod (65535 * v + most / 2) most
  have e2 := Int.emod_nonneg (65535 * v + most / 2) (show most ≠ 0 by omega)
  have e3 := Int.emod_lt_of_pos (65535 * v + most / 2) hpos
  generalize (65535 * v + most / 2) / most = q at *
  generalize (65535 * v + most / 2) % most = r at *
  have hq : q * most = most * q := Int.mul_comm _ _
  rw [hq]
  omega
/-- greater numbers make greater samples -/
theorem up_mono {v w most : Int} (hv : ¬ upBad v most) (hw : ¬ upBad w most) : (v < w) ↔ (upV v most < upV w most) := by
  have key : ∀ a b : Int, ¬ upBad a most → ¬ upBad b most → a < b → upV a most < upV b most := by
    intro a b ha hb hab
    unfold upV
    rw [if_neg ha, if_neg hb]
    simp only [upBad, not_or] at ha hb
    obtain ⟨h1, h2, h3, h4⟩ := ha
    have hpos : 0 < most := by omega
    have h5 : 65535 * a + most / 2 + most ≤ 65535 * b + most / 2 := by omega
    have h6 : (65535 * a + most / 2 + most) / most = (65535 * a + most / 2) / most + 1 := by
      rw [Int.add_ediv_of_dvd_right (Int.dvd_refl most), Int.ediv_self (by omega)]
    have h7 := Int.ediv_le_ediv hpos h5
    omega
  constructor
  · exact key v w hv hw
  · intro h
    rcases Int.lt_trichotomy v w with h' | h' | h'
    · exact h'
    · subst h'; omega
    · have := key w v hw hv h'
      omega
theorem clampTo_id {x : Int} (h : 0 ≤ x ∧ x ≤ 255) : clampTo x 255 = x := by
  unfold clampTo; rw [if_neg (by omega), if_neg (by omega)]
theorem clampTo_near {x y : Int} (hy : 0 ≤ y ∧ y ≤ 255) (h : -2 ≤ x - y ∧ x - y ≤ 2) : -2 ≤ clampTo x 255 - y ∧ clampTo x 255 - y ≤ 2 := by
  unfold clampTo
  split
  · omega
  · split <;> omega
theorem back_near {r g b : Int} (hr : 0 ≤ r ∧ r ≤ 255) (hg : 0 ≤ g ∧ g ≤ 255) (hb : 0 ≤ b ∧ b ≤ 255) :
    (-2 ≤ rr (yy r g b) (cb r g b) (cr r g b) - r ∧ rr (yy r g b) (cb r g b) (cr r g b) - r ≤ 2) ∧
    (-2 ≤ gg (yy r g b) (cb r g b) (cr r g b) - g ∧ gg (yy r g b) (cb r g b) (cr r g b) - g ≤ 2) ∧
    (-2 ≤ bb (yy r g b) (cb r g b) (cr r g b) - b ∧ bb (yy r g b) (cb r g b) (cr r g b) - b ≤ 2) := by
  have ey : clampTo (yy r g b) 255 = (19595 * r + 38470 * g + 7471 * b + 32768) / 65536 := by
    unfold yy
    rw [clampTo_id hr, clampTo_id hg, clampTo_id hb, clampTo_id (clampTo_range _)]
    exact clampTo_id (by omega)
  have eu : clampTo (cb r g b) 255 = (-11058 * r + -21710 * g + 32768 * b + 8421376) / 65536 ∨ (clampTo (cb r g b) 255 = 255 ∧ (-11058 * r + -21710 * g + 32768 * b + 8421376) / 65536 = 256) := by
    unfold cb
    rw [clampTo_id hr, clampTo_id hg, clampTo_id hb, clampTo_id (clampTo_range _)]
    unfold clampTo
    rw [if_neg (by omega)]
    split <;> omega
  have ev : clampTo (cr r g b) 255 = (32768 * r + -27439 * g + -5329 * b + 8421376) / 65536 ∨ (clampTo (cr r g b) 255 = 255 ∧ (32768 * r + -27439 * g + -5329 * b + 8421376) / 65536 = 256) := by
    unfold cr
    rw [clampTo_id hr, clampTo_id hg, clampTo_id hb, clampTo_id (clampTo_range _)]
    unfold clampTo
    rw [if_neg (by omega)]
    split <;> omega
  unfold rr gg bb
  rw [ey]
  generalize clampTo (cb r g b) 255 = u at *
  generalize clampTo (cr r g b) 255 = v at *
  refine ⟨clampTo_near hr ?_, clampTo_near hg ?_, clampTo_near hb ?_⟩
  · rcases ev with e | ⟨e1, e2⟩ <;> omega
  · rcases eu with e | ⟨e1, e2⟩ <;> rcases ev with e' | ⟨e3, e4⟩ <;> omega
  · rcases eu with e | ⟨e1, e2⟩ <;> omega
end Go.Proofs.YtioeifbobhdccaaGreatDoor.tm
/- Single operations under the laws of regions that make memory. No program in sight. -/
namespace Go.Proofs.YtioeifbobhdccaaGreatDoor
open Go.RowKit Go.Shelf

section
variable {P : Program} {Q : Exit → Act → World → Prop} {S : Act → World → Prop} {D : Nat → Nat} {R : Nat → Value → World → Prop} {n : Nat} {o : Oper}
theorem eval_tmp {a : Act} {t : Nat} {v : Value} (h : a.tmps[t]? = some v) : a.eval (.tmp t) = v := by simp [Act.eval, h]

theorem od_move (t : Nat) (V : Value) (ho : o.op = .move (.tmp t)) (hS : ∀ a w, S a w → a.tmps[t]? = some V) (hR : ∀ w, R n V w) : OpDoes P Q S D R n o := by
  intro a w h _
  have e := eval_tmp (hS a w h)
  have hrun : (execOp a.eval o).run P w = .ok (.value V) w := by
    unfold execOp
    simp only [ho, e]
    rfl
  unfold Oper.wp
  rw [hrun]
  exact ⟨_, rfl, hR w, Below.refl _ _⟩
theorem od_load_row (t g : Nat) (T T' : TypeId) (cs : Array Value) (d : TypeDesc) (ho : o.op = .load T (.tmp t))
    (hS : ∀ a w, S a w → a.tmps[t]? = some (.pointer (some ⟨g, 0, none⟩)) ∧ w.heap[g]? = some (.cells cs T' (0, 0))) (hu : P.underlying T = some d)
    (hd : (match d with | .struct _ | .array _ _ => true | _ => false) = true) (hi : (P.info? T).map (·.size) = some cs.size) (hR : ∀ w, R n (.agg cs) w) : OpDoes P Q S D R n o := by
  intro a w h _
  obtain ⟨h1, h2⟩ := hS a w h
  exact wp_load_row _ _ ho g (eval_tmp h1) _ _ _ _ h2 hu hd hi ⟨_, rfl, hR w, Below.refl _ _⟩
theorem wp_call3 {a : Act} {w : World} {K : Act → World → Prop} (t x y z : Nat) (T : Array TypeId) (ho : o.op = .call { callee := .value (.tmp t), args := #[.tmp x, .tmp y, .tmp z], argTypes := T })
    (f : FuncId) (caps : Array Value) (vx vy vz : Value) (et : a.tmps[t]? = some (.func (.func f) #[] caps)) (ex : a.tmps[x]? = some vx) (ey : a.tmps[y]? = some vy) (ez : a.tmps[z]? = some vz) (he : Enters P f)
    {R : Ending → World → Prop} (hc : Calls P f (#[vx, vy, vz] ++ caps) w R) (h : ∀ e w', R e w' → ∃ v, e = .returned v ∧ K (a.put o.dst v) w') : o.wp P a w K Q := by
  have hrun : (execOp a.eval o).run P w = .ok (.enter f (#[vx, vy, vz] ++ caps)) w := by
    have h1 := he (#[vx, vy, vz] ++ caps) w
    unfold execOp
    simp only [ho, resolve, invoke, eval_tmp et, eval_tmp ex, eval_tmp ey, eval_tmp ez, List.map_toArray, List.map_cons, List.map_nil]
    simpa [go_sem] using h1
  unfold Oper.wp
  rw [hrun, Oper.upon_enter]
  exact hc.mono fun e w' hr => by
    obtain ⟨v, rfl, hk⟩ := h e w' hr
    exact hk
end
end Go.Proofs.YtioeifbobhdccaaGreatDoor
/- Single operations under the laws of regions that make memory, more of them. No program in sight. -/
namespace Go.Proofs.YtioeifbobhdccaaGreatDoor
open Go.RowKit Go.Shelf

section
variable {P : Program} {Q : Exit → Act → World → Prop} {S : Act → World → Prop} {D : Nat → Nat} {R : Nat → Value → World → Prop} {n : Nat} {o : Oper}
/-- what j has left is at hand -/
def Waits (o : Oper) (j : Nat) : Prop := o.after.any (fun e => e.on == j && Region.binds .any e) = true

theorem od_val (V : Value) (h : ∀ a w, S a w → (∀ j, Waits o j → ∃ v, a.tmps[D j]? = some v ∧ R j v w) → (execOp a.eval o).run P w = .ok (.value V) w) (hR : ∀ w, R n V w) : OpDoes P Q S D R n o := by
  intro a w hS hd
  unfold Oper.wp
  rw [h a w hS hd]
  exact ⟨_, rfl, hR w, Below.refl _ _⟩
theorem od_move_dep (j t : Nat) (ho : o.op = .move (.tmp t)) (hj : Waits o j) (hD : D j = t) (hR : ∀ v w, R j v w → R n v w) : OpDoes P Q S D R n o := by
  intro a w _ hd
  obtain ⟨v, e, hv⟩ := hd j hj
  rw [hD] at e
  have hrun : (execOp a.eval o).run P w = .ok (.value v) w := by
    unfold execOp
    simp only [ho, eval_tmp e]
    rfl
  unfold Oper.wp
  rw [hrun]
  exact ⟨_, rfl, hR v w hv, Below.refl _ _⟩
theorem od_assign_dep (j t : Nat) (ho : o.op = .assign (.tmp t)) (hj : Waits o j) (hD : D j = t) (hR : ∀ v w, R j v w → R n v w) : OpDoes P Q S D R n o := by
  intro a w _ hd
  obtain ⟨v, e, hv⟩ := hd j hj
  rw [hD] at e
  have hrun : (execOp a.eval o).run P w = .ok (.value v) w := by
    unfold execOp
    simp only [ho, eval_tmp e]
    rfl
  unfold Oper.wp
  rw [hrun]
  exact ⟨_, rfl, hR v w hv, Below.refl _ _⟩
theorem od_extract (j t i : Nat) (vs : Array Value) (x : Value) (ho : o.op = .extract (.tmp t) i) (hj : Waits o j) (hD : D j = t) (hv : ∀ v w, R j v w → v = .tuple vs) (hx : vs[i]? = some x) (hR : ∀ w, R n x w) : OpDoes P Q S D R n o := by
  intro a w _ hd
  obtain ⟨v, e, h⟩ := hd j hj
  rw [hD, hv v w h] at e
  have hrun : (execOp a.eval o).run P w = .ok (.value x) w := by
    unfold execOp
    simp only [ho, eval_tmp e]
    simp [Instr.extract, hx]
  unfold Oper.wp
  rw [hrun]
  exact ⟨_, rfl, hR w, Below.refl _ _⟩
end
end Go.Proofs.YtioeifbobhdccaaGreatDoor
