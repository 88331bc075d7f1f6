/- The frame's own lemmas for an image. -/
import Derived.Test.YtdemndjenlhahaaFrame
import Derived.Deep.Strs
namespace Go.Proofs.Ytdemndjenlhahaa
open Go.ChangeShapes Go.WideShapes Go.ChangeAt Go.RowKit

set_option maxRecDepth 100000 in
theorem open_sl_cells {H : Type} {enc : TypeId × Value → H} {W : World} {t e : TypeId} {k : IntKind} {fuel : Nat} {cs : List Value} {x : DataW H × List MemPlace}
    (ht : Try.prog.underlying t = some (.slice e)) (he : Try.prog.underlying e = some (.int k)) (hc : Try.prog.cellsOf e = 1)
    (hf : DataW.trod enc Try.prog W 0 (fun _ => true) true fuel t cs = some x) :
    ∃ a n cap l, cs = [.slice a n cap] ∧ Sl k W a n cap l ∧ (x.1 = .nil ∧ cap = 0 ∨ ∃ es sp, x.1 = .slice es sp ∧ es.length + sp.length = cap ∧ es = lits k l) := by
  rcases open_ints ht he hc hf with ⟨hcs, hx⟩ | ⟨x', l, c, zs, hcs, _, hl, hm, hz, hx, hcell, hwz⟩
  · exact ⟨none, 0, 0, [], hcs, Sl.nil, .inl ⟨by rw [hx], rfl⟩⟩
  · simp only [if_true] at hz
    refine ⟨some x', l, c, zs.take l, hcs, ⟨by rw [List.length_take]; omega, hl, hm, (fun e => by cases e), (fun x hx => hwz x (List.mem_of_mem_take hx)), ?_⟩, .inr ⟨_, _, by rw [hx], ?_, rfl⟩⟩
    · by_cases h0 : l = 0
      · subst h0; exact .inl (by simp)
      · obtain ⟨b, off, spot⟩ := x'
        have hc0 := hcell 0 (by omega)
        have hspot : spot = none := by simpa [Addr.add] using World.cell?_spot hc0
        subst hspot
        refine .inr ⟨b, off, rfl, fun i hi => ?_⟩
        rw [List.length_take] at hi
        have := hcell i (by omega)
        have e2 : (⟨b, off, none⟩ : Addr).add i = ⟨b, off + i, none⟩ := by unfold Addr.add; split <;> simp_all
        rw [e2] at this
        rw [this]
        congr 2
        simp only [List.getD_eq_getElem?_getD, List.getElem?_take]
        rw [if_pos (by omega)]
    · simp only [lits, List.length_map, List.length_take, List.length_drop]; omega

set_option maxRecDepth 100000 in
theorem open_image {H : Type} {enc : TypeId × Value → H} {W : World} {b0 : Nat} {v : Value} {d : DataW H} {p : List MemPlace} {ts : List TypeId} {ds : List (DataW H)}
    (hsz : (DataW.weightsEach Try.prog ts ds).all (· ≤ reachBytes) = true) {j : Nat} (hts : ts[j]? = some 41) (hds : ds[j]? = some d)
    (hv : Value.okWide Try.prog W .any b0 41 v) (h : DataW.Trod enc Try.prog W 0 (fun _ => true) true 41 v d p) :
    ∃ (X Y : Int) (a : Option Addr) (n cap : Nat) (l : List Int), v = .agg #[.int .i64 X, .int .i64 Y, .slice a n cap] ∧ Sl .u16 W a n cap l ∧ cap * Try.prog.bytesOf 31 ≤ reachBytes := by
  obtain ⟨cs, rfl, hsz3⟩ := okWide_struct Try.underlying41 hv
  have h3 : Try.prog.cellsOf 41 = 3 := by kernel_rfl
  have qi : Try.prog.cellsOf 3 = 1 := by kernel_rfl
  have qs : Try.prog.cellsOf 39 = 1 := by kernel_rfl
  have qu : Try.prog.cellsOf 31 = 1 := by kernel_rfl
  obtain ⟨l⟩ := cs
  match l, hsz3.trans h3 with
  | [c0, c1, c2], _ =>
    obtain ⟨fuel, hf⟩ := h
    obtain ⟨y0, y1, y2, n, hx, _, t0, t1, t2⟩ := Deep.trod_struct3 Try.underlying41 hf
    obtain ⟨X, e0, _, _⟩ := DataW.trod_int Try.underlying3 t0
    obtain ⟨Y, e1, _, _⟩ := DataW.trod_int Try.underlying3 t1
    obtain ⟨a, m, cap, l, e2, hs, hd⟩ := open_sl_cells (k := .u16) Try.underlying39 Try.underlying31 qu t2
    simp only [qi, qs] at e0 e1 e2
    simp [Value.cells] at e0 e1 e2
    subst e0 e1 e2
    refine ⟨X, Y, a, m, cap, l, rfl, hs, ?_⟩
    simp only [Prod.mk.injEq] at hx
    obtain ⟨rfl, _⟩ := hx
    rcases hd with ⟨_, h⟩ | ⟨es, sp, hd, h, _⟩
    · rw [h, Nat.zero_mul]; exact Nat.zero_le _
    · have := List.all_eq_true.1 hsz _ (DataW.weights_mem_each hts hds ((es.length + sp.length) * Try.prog.bytesOf 31) (by
        rw [hd]
        have hu := Try.underlying41
        have hu2 := Try.underlying39
        simp [DataW.weights, hu, hu2, DataW.weightsEach]))
      rw [h] at this
      simpa using this
end Go.Proofs.Ytdemndjenlhahaa
