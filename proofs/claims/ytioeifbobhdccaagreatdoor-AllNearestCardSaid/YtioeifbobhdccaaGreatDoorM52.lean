/- The frame's own lemmas: an argument that is a slice of integers, opened. -/
import Derived.Test.YtioeifbobhdccaaGreatDoorM0
import Derived.ProofKit
import Derived.OpenShut
import Derived.ShutString
import Derived.ChangeOld
import Derived.Below
import Derived.SizedLaws
import Derived.JoinedCond
import Derived.Deep.Strs
namespace Go.Proofs.YtioeifbobhdccaaGreatDoor
open Go.ChangeShapes Go.WideShapes Go.ChangeAt Go.RowKit
theorem ownKnob_none : ownKnob Tryz.prog.godebug = none := by kernel_rfl
theorem laidOut_true : laidOutB Tryz.prog = true := by kernel_rfl

set_option maxRecDepth 100000 in
theorem open_sl {H : Type} {enc : TypeId × Value → H} {W : World} {t e : TypeId} {k : IntKind} {a : Option Addr} {n cap : Nat} {d : DataW H} {p : List MemPlace}
    (ht : Tryz.prog.underlying t = some (.slice e)) (he : Tryz.prog.underlying e = some (.int k)) (hc : Tryz.prog.cellsOf e = 1)
    (h : DataW.Trod enc Tryz.prog W 0 (fun _ => true) true t (Value.slice a n cap) d p) :
    ∃ l, Sl k W a n cap l ∧ (d = .nil ∧ cap = 0 ∨ ∃ es sp, d = .slice es sp ∧ es.length + sp.length = cap ∧ es = lits k l) := by
  obtain ⟨fuel, hf⟩ := h
  rcases open_ints ht he hc hf with ⟨hcs, hx⟩ | ⟨x, l, c, zs, hcs, _, hl, hm, hz, hx, hcell, hwz⟩
  · simp [Value.cells] at hcs
    obtain ⟨rfl, rfl, rfl⟩ := hcs
    simp only [Prod.mk.injEq] at hx
    exact ⟨[], Sl.nil, .inl ⟨hx.1, rfl⟩⟩
  · simp [Value.cells] at hcs
    obtain ⟨rfl, rfl, rfl⟩ := hcs
    simp only [Prod.mk.injEq] at hx
    simp only [if_true] at hz
    refine ⟨zs.take n, ⟨by rw [List.length_take]; omega, hl, hm, (fun e => by cases e), (fun x hx => hwz x (List.mem_of_mem_take hx)), ?_⟩, .inr ⟨_, _, hx.1, ?_, rfl⟩⟩
    · by_cases h0 : n = 0
      · subst h0; exact .inl (by simp)
      · obtain ⟨b, off, spot⟩ := x
        have hc0 := hcell 0 (by omega)
        have hspot : spot = none := by simpa [Addr.add] using World.cell?_spot hc0
        subst hspot
        refine .inr ⟨b, off, rfl, fun i hi => ?_⟩
        rw [List.length_take] at hi
        have := hcell i (by omega)
        have e2 : (⟨b, off, none⟩ : Addr).add i = ⟨b, off + i, none⟩ := by unfold Addr.add; split <;> simp_all
        rw [e2] at this
        rw [this]
        congr 2
        simp only [List.getD_eq_getElem?_getD, List.getElem?_take]
        rw [if_pos (by omega)]
    · simp only [lits, List.length_map, List.length_take, List.length_drop]; omega
end Go.Proofs.YtioeifbobhdccaaGreatDoor
/- The frame's own lemmas for an image. -/
namespace Go.Proofs.YtioeifbobhdccaaGreatDoor
open Go.ChangeShapes Go.WideShapes Go.ChangeAt Go.RowKit

set_option maxRecDepth 100000 in
theorem open_sl_cells {H : Type} {enc : TypeId × Value → H} {W : World} {t e : TypeId} {k : IntKind} {fuel : Nat} {cs : List Value} {x : DataW H × List MemPlace}
    (ht : Tryz.prog.underlying t = some (.slice e)) (he : Tryz.prog.underlying e = some (.int k)) (hc : Tryz.prog.cellsOf e = 1)
    (hf : DataW.trod enc Tryz.prog W 0 (fun _ => true) true fuel t cs = some x) :
    ∃ a n cap l, cs = [.slice a n cap] ∧ Sl k W a n cap l ∧ (x.1 = .nil ∧ cap = 0 ∨ ∃ es sp, x.1 = .slice es sp ∧ es.length + sp.length = cap ∧ es = lits k l) := by
  rcases open_ints ht he hc hf with ⟨hcs, hx⟩ | ⟨x', l, c, zs, hcs, _, hl, hm, hz, hx, hcell, hwz⟩
  · exact ⟨none, 0, 0, [], hcs, Sl.nil, .inl ⟨by rw [hx], rfl⟩⟩
  · simp only [if_true] at hz
    refine ⟨some x', l, c, zs.take l, hcs, ⟨by rw [List.length_take]; omega, hl, hm, (fun e => by cases e), (fun x hx => hwz x (List.mem_of_mem_take hx)), ?_⟩, .inr ⟨_, _, by rw [hx], ?_, rfl⟩⟩
    · by_cases h0 : l = 0
      · subst h0; exact .inl (by simp)
      · obtain ⟨b, off, spot⟩ := x'
        have hc0 := hcell 0 (by omega)
        have hspot : spot = none := by simpa [Addr.add] using World.cell?_spot hc0
        subst hspot
        refine .inr ⟨b, off, rfl, fun i hi => ?_⟩
        rw [List.length_take] at hi
        have := hcell i (by omega)
        have e2 : (⟨b, off, none⟩ : Addr).add i = ⟨b, off + i, none⟩ := by unfold Addr.add; split <;> simp_all
        rw [e2] at this
        rw [this]
        congr 2
        simp only [List.getD_eq_getElem?_getD, List.getElem?_take]
        rw [if_pos (by omega)]
    · simp only [lits, List.length_map, List.length_take, List.length_drop]; omega

set_option maxRecDepth 100000 in
theorem open_image {H : Type} {enc : TypeId × Value → H} {W : World} {b0 : Nat} {v : Value} {d : DataW H} {p : List MemPlace} {ts : List TypeId} {ds : List (DataW H)}
    (hsz : (DataW.weightsEach Tryz.prog ts ds).all (· ≤ reachBytes) = true) {j : Nat} (hts : ts[j]? = some 24) (hds : ds[j]? = some d)
    (hv : Value.okWide Tryz.prog W .any b0 24 v) (h : DataW.Trod enc Tryz.prog W 0 (fun _ => true) true 24 v d p) :
    ∃ (X Y : Int) (a : Option Addr) (n cap : Nat) (l : List Int), v = .agg #[.int .i64 X, .int .i64 Y, .slice a n cap] ∧ Sl .u16 W a n cap l ∧ cap * Tryz.prog.bytesOf 36 ≤ reachBytes := by
  obtain ⟨cs, rfl, hsz3⟩ := okWide_struct Tryz.underlying24 hv
  have h3 : Tryz.prog.cellsOf 24 = 3 := by kernel_rfl
  have qi : Tryz.prog.cellsOf 3 = 1 := by kernel_rfl
  have qs : Tryz.prog.cellsOf 22 = 1 := by kernel_rfl
  have qu : Tryz.prog.cellsOf 36 = 1 := by kernel_rfl
  obtain ⟨l⟩ := cs
  match l, hsz3.trans h3 with
  | [c0, c1, c2], _ =>
    obtain ⟨fuel, hf⟩ := h
    obtain ⟨y0, y1, y2, n, hx, _, t0, t1, t2⟩ := Deep.trod_struct3 Tryz.underlying24 hf
    obtain ⟨X, e0, _, _⟩ := DataW.trod_int Tryz.underlying3 t0
    obtain ⟨Y, e1, _, _⟩ := DataW.trod_int Tryz.underlying3 t1
    obtain ⟨a, m, cap, l, e2, hs, hd⟩ := open_sl_cells (k := .u16) Tryz.underlying22 Tryz.underlying36 qu t2
    simp only [qi, qs] at e0 e1 e2
    simp [Value.cells] at e0 e1 e2
    subst e0 e1 e2
    refine ⟨X, Y, a, m, cap, l, rfl, hs, ?_⟩
    simp only [Prod.mk.injEq] at hx
    obtain ⟨rfl, _⟩ := hx
    rcases hd with ⟨_, h⟩ | ⟨es, sp, hd, h, _⟩
    · rw [h, Nat.zero_mul]; exact Nat.zero_le _
    · have := List.all_eq_true.1 hsz _ (DataW.weights_mem_each hts hds ((es.length + sp.length) * Tryz.prog.bytesOf 36) (by
        rw [hd]
        have hu := Tryz.underlying24
        have hu2 := Tryz.underlying22
        simp [DataW.weights, hu, hu2, DataW.weightsEach]))
      rw [h] at this
      simpa using this
end Go.Proofs.YtioeifbobhdccaaGreatDoor
