/- The frame's own lemma for an array of three integers. -/
import Derived.Test.YtfaemhmefijaoaaDoorFrame
import Derived.Lib.SmallJoins
namespace Go.Proofs.YtfaemhmefijaoaaDoor
open Go.ChangeShapes Go.WideShapes Go.ChangeAt Go.RowKit Go.Joins

set_option maxRecDepth 100000 in
theorem open_arr {H : Type} {enc : TypeId × Value → H} {W : World} {b0 n : Nat} {t e : TypeId} {k : IntKind} {v : Value} {d : DataW H} {p : List MemPlace}
    (ht : Tryd.prog.underlying t = some (.array n e)) (he : Tryd.prog.underlying e = some (.int k)) (hc : Tryd.prog.cellsOf e = 1) (hC : Tryd.prog.cellsOf t = n)
    (hv : Value.okWide Tryd.prog W .any b0 t v) (h : DataW.Trod enc Tryd.prog W 0 (fun _ => true) true t v d p) :
    ∃ l : List Int, l.length = n ∧ v = .agg (l.map (Value.int k)).toArray ∧ ∀ x ∈ l, (Lit.int k x).wf = true := by
  simp only [Value.okWide, ht] at hv
  obtain ⟨cs, rfl, hsz, _⟩ := hv
  obtain ⟨fuel, hf⟩ := h
  obtain ⟨xs, m, rfl, hx, hl, hxl, hel⟩ := DataW.trod_array ht hf
  have hlen : cs.toList.length = n := by rw [hC] at hl; exact hl
  have each : ∀ i, i < n → ∃ z, cs.toList[i]? = some (.int k z) ∧ (Lit.int k z).wf = true := by
    intro i hi
    have := hel i hi
    rw [List.getElem?_eq_getElem (by omega)] at this
    obtain ⟨z, e1, _, w1⟩ := DataW.trod_int he this
    refine ⟨z, ?_, w1⟩
    rw [hc, Nat.mul_one] at e1
    have e2 : (Value.agg cs).cells.toList = cs.toList := rfl
    rw [e2] at e1
    have := congrArg (fun l : List Value => l[0]?) e1
    simpa [List.getElem?_take, List.getElem?_drop] using this
  refine ⟨cs.toList.map (fun v => match v with | .int _ z => z | _ => 0), by simpa using hlen, ?_, ?_⟩
  · congr 1
    apply Array.ext'
    simp only [List.map_map]
    apply List.ext_getElem?
    intro i
    rw [List.getElem?_map]
    by_cases hi : i < n
    · obtain ⟨z, e1, _⟩ := each i hi
      rw [e1]; rfl
    · rw [List.getElem?_eq_none (by omega)]; rfl
  · intro x hx
    obtain ⟨v, hv, rfl⟩ := List.mem_map.1 hx
    obtain ⟨i, hi, e⟩ := List.getElem_of_mem hv
    obtain ⟨z, e1, w1⟩ := each i (by omega)
    rw [List.getElem?_eq_getElem hi, e] at e1
    simp only [Option.some.injEq] at e1
    subst e1
    exact w1

set_option maxRecDepth 100000 in
theorem open_arr3 {H : Type} {enc : TypeId × Value → H} {W : World} {b0 : Nat} {t e : TypeId} {k : IntKind} {v : Value} {d : DataW H} {p : List MemPlace}
    (ht : Tryd.prog.underlying t = some (.array 3 e)) (he : Tryd.prog.underlying e = some (.int k)) (hc : Tryd.prog.cellsOf e = 1) (hC : Tryd.prog.cellsOf t = 3)
    (hv : Value.okWide Tryd.prog W .any b0 t v) (h : DataW.Trod enc Tryd.prog W 0 (fun _ => true) true t v d p) :
    ∃ x y z : Int, v = .agg #[.int k x, .int k y, .int k z] ∧ (Lit.int k x).wf = true ∧ (Lit.int k y).wf = true ∧ (Lit.int k z).wf = true := by
  obtain ⟨l, hl, rfl, hw⟩ := open_arr ht he hc hC hv h
  match l, hl with
  | [x, y, z], _ => exact ⟨x, y, z, rfl, hw x (by simp), hw y (by simp), hw z (by simp)⟩
end Go.Proofs.YtfaemhmefijaoaaDoor
