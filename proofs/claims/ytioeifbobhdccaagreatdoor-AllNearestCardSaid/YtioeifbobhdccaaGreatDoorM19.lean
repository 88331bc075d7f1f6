/- Sorting colours: members stay. -/
import Derived.Test.YtioeifbobhdccaaGreatDoorM13
import Derived.Test.YtioeifbobhdccaaGreatDoorM18
import Derived.RegionTactic
import Derived.BigRegion
import Derived.Test.YtioeifbobhdccaaGreatDoorM5
import Derived.OrdersIn
namespace Go.Proofs.YtioeifbobhdccaaGreatDoor
open Go.RowKit Go.Sort

theorem colRow_set (t : List C4) (j : Nat) (e : C4) (hj : j < t.length) : setL (colRow t) (4 * j) e.cells = colRow (t.set j e) := by
  have hl := colRow_length t
  apply List.ext_getElem?
  intro i
  simp only [C4.cells, setL]
  rw [colRow_get, List.getElem?_set, List.getElem?_set, List.getElem?_set, List.getElem?_set, List.getElem?_set, colRow_get]
  simp only [List.length_set, hl]
  by_cases h : j = i / 4
  · have hm : i = 4 * j ∨ i = 4 * j + 1 ∨ i = 4 * j + 1 + 1 ∨ i = 4 * j + 1 + 1 + 1 := by omega
    rcases hm with rfl | rfl | rfl | rfl
    · rw [show (4 * j) / 4 = j by omega, show (4 * j) % 4 = 0 by omega, if_neg (show ¬ (4 * j + 1 + 1 + 1 = 4 * j) by omega), if_neg (show ¬ (4 * j + 1 + 1 = 4 * j) by omega), if_neg (show ¬ (4 * j + 1 = 4 * j) by omega), if_pos rfl, if_pos (show 4 * j < t.length * 4 by omega), if_pos rfl, if_pos hj]
      rfl
    · rw [show (4 * j + 1) / 4 = j by omega, show (4 * j + 1) % 4 = 1 by omega, if_neg (show ¬ (4 * j + 1 + 1 + 1 = 4 * j + 1) by omega), if_neg (show ¬ (4 * j + 1 + 1 = 4 * j + 1) by omega), if_pos rfl, if_pos (show 4 * j + 1 < t.length * 4 by omega), if_pos rfl, if_pos hj]
      rfl
    · rw [show (4 * j + 1 + 1) / 4 = j by omega, show (4 * j + 1 + 1) % 4 = 2 by omega, if_neg (show ¬ (4 * j + 1 + 1 + 1 = 4 * j + 1 + 1) by omega), if_pos rfl, if_pos (show 4 * j + 1 + 1 < t.length * 4 by omega), if_pos rfl, if_pos hj]
      rfl
    · rw [show (4 * j + 1 + 1 + 1) / 4 = j by omega, show (4 * j + 1 + 1 + 1) % 4 = 3 by omega, if_pos rfl, if_pos (show 4 * j + 1 + 1 + 1 < t.length * 4 by omega), if_pos rfl, if_pos hj]
      rfl
  · rw [if_neg h, if_neg (by omega), if_neg (by omega), if_neg (by omega), if_neg (by omega)]
/-- the row of a slice of one's own -/
def RowC (base : Nat) (w : World) (b cap : Nat) (t : List C4) : Prop := OwnC base w (.slice (some ⟨b, 0, none⟩) t.length cap) t
theorem RowC.set {base : Nat} {w : World} {b cap : Nat} {t : List C4} (h : RowC base w b cap t) (j : Nat) (hj : j < t.length) (e : C4) : RowC base (w.setCells b (j * 4) e.cells) b cap (t.set j e) := by
  unfold RowC OwnC at h ⊢
  rw [List.length_set]
  refine ⟨by rw [colRow_length, List.length_set], ?_⟩
  rcases h.2 with ⟨h', _⟩ | ⟨g, cap', cur, h', h1, h2, h3, h4, h5, h6⟩
  · cases h'
  · simp only [Value.slice.injEq, Option.some.injEq, Addr.mk.injEq, and_true, true_and] at h'
    obtain ⟨rfl, rfl⟩ := h'
    refine .inr ⟨b, cap, _, rfl, h1, heap_setCells _ _ _ _ _ _ h2, h3, h4, ?_, ?_⟩
    · simp only [List.size_toArray, setL_length, Array.length_toList]
      exact h5
    · rw [List.toList_toArray, setL_take, h6, Nat.mul_comm, colRow_set t j e hj]
theorem RowC.block {base : Nat} {w : World} {b cap : Nat} {t : List C4} (h : RowC base w b cap t) : base ≤ b ∧ ∃ cur, w.heap[b]? = some (.cells cur 38 (0, 0)) ∧ t.length * 4 ≤ cur.size ∧ t.length ≤ cap ∧ cap ≤ maxLen := by
  rcases h.2 with ⟨h', _⟩ | ⟨g, cap', cur, h', h1, h2, h3, h4, h5, h6⟩
  · cases h'
  · simp only [Value.slice.injEq, Option.some.injEq, Addr.mk.injEq, and_true, true_and] at h'
    obtain ⟨rfl, rfl⟩ := h'
    exact ⟨h1, cur, h2, by rw [h5]; omega, h3, h4⟩
theorem RowC.cell {base : Nat} {w : World} {b cap : Nat} {t : List C4} (h : RowC base w b cap t) {j : Nat} {e : C4} (he : t[j]? = some e) {f : Nat} (hf : f < 4) {u : Value} (hu : e.cells[f]? = some u) : w.cell? ⟨b, j * 4 + f, none⟩ = some u := by
  have h1 := World.ownsRow.cells h (g := b) rfl (j * 4 + f) u (by rw [colRow_get, show (j * 4 + f) / 4 = j by omega, he, show (j * 4 + f) % 4 = f by omega]; exact hu)
  rwa [Addr.add_mid, Nat.zero_add] at h1
theorem RowC.there {base : Nat} {w : World} {b cap : Nat} {t : List C4} (h : RowC base w b cap t) {j : Nat} (hj : j < t.length) : w.there b (j * 4) 4 := by
  obtain ⟨_, cur, hc, hs, _⟩ := h.block
  intro q hq
  refine ⟨?_, frozen_of_row w b _ _ _ hc⟩
  rw [cell_of_row w b _ _ _ (0, 0) hc]
  have : j * 4 + q < cur.size := by omega
  simp [this]
theorem RowC.below {base : Nat} {w w' : World} {b cap : Nat} {t : List C4} (h : RowC base w b cap t) (hb : Below w.heap.size w w') : RowC base w' b cap t := ownsRow_below h hb
theorem grownBy_setCells (b : Nat) : ∀ (vs : List Value) (o : Nat) (w : World), w.grownBy (w.setCells b o vs) (some b)
  | [], _, w => World.grownBy.refl w _
  | v :: r, o, w => (grownBy_setCell3 w b o v).trans (grownBy_setCells b r (o + 1) _)
/-- as many, and none that was not there -/
def Mem (t t' : List C4) : Prop := t'.length = t.length ∧ ∀ c ∈ t', c ∈ t
theorem Mem.refl (t : List C4) : Mem t t := ⟨rfl, fun _ h => h⟩
theorem Mem.trans {a b c : List C4} (h : Mem a b) (k : Mem b c) : Mem a c := ⟨k.1.trans h.1, fun x hx => h.2 x (k.2 x hx)⟩
theorem mem_swap {t : List C4} {i j : Nat} {x y : C4} (hx : x ∈ t) (hy : y ∈ t) : Mem t ((t.set i y).set j x) := by
  refine ⟨by rw [List.length_set, List.length_set], fun c hc => ?_⟩
  rcases List.mem_or_eq_of_mem_set hc with h | rfl
  · rcases List.mem_or_eq_of_mem_set h with h | rfl
    · exact h
    · exact hy
  · exact hx
def SortPost (base b cap : Nat) (t : List C4) (w : World) (e : Ending) (w' : World) : Prop := e = .returned (.tuple #[]) ∧ ∃ t', Mem t t' ∧ RowC base w' b cap t' ∧ w.grownBy w' (some b)
set_option maxRecDepth 100000 in
set_option maxHeartbeats 1600000 in
theorem swapRange_any (base b cap : Nat) (t : List C4) (F : Value) (x y m : Nat) (w : World) (h : RowC base w b cap t) (hx : x + m ≤ y) (hy : y + m ≤ t.length) (hl : t.length ≤ 1099511627776) :
    Calls Tryz.prog 141 #[.slice (some ⟨b, 0, none⟩) t.length cap, .int .i64 x, .int .i64 y, .int .i64 m, F] w (SortPost base b cap t w) := by
  have HR := Lib.hid h
  obtain ⟨n, hn⟩ : ∃ n, t.length = n := ⟨_, rfl⟩
  rw [hn] at hy hl ⊢
  have HN := Lib.hid hn
  clear h hn
  go_enter Tryz.func141, Tryz.ntmps141
  go_wp2_with fail
  go_loopg [10] m (fun gk i wr => ∃ (k : Nat) (t1 : List C4), k ≤ m ∧ gk = m - k ∧ i = .int .i64 k ∧ Mem t t1 ∧ RowC base wr b cap t1 ∧ w.grownBy wr (some b))
  case atStart => exact ⟨0, t, Nat.zero_le _, rfl, rfl, Mem.refl _, HR.out, World.grownBy.refl _ _⟩
  case round =>
    obtain ⟨k, t1, hk, hg, rfl, hm, hr, hgw⟩ := hrel
    have Hg := Lib.hid hg
    have HM := Lib.hid hm
    have HR1 := Lib.hid hr
    have HG := Lib.hid hgw
    clear hg hm hr hgw
    by_cases hlt : k < m
    · obtain ⟨xi, hxi⟩ : ∃ xi, x + k = xi := ⟨_, rfl⟩
      obtain ⟨yi, hyi⟩ : ∃ yi, y + k = yi := ⟨_, rfl⟩
      have hl1 : t1.length = n := HM.out.1.trans HN.out
      have hex : t1[xi]? = some (t1[xi]'(by omega)) := List.getElem?_eq_getElem _
      have hey : t1[yi]? = some (t1[yi]'(by omega)) := List.getElem?_eq_getElem _
      obtain ⟨cx, hcx⟩ : ∃ cx, t1[xi]? = some cx := ⟨_, hex⟩
      obtain ⟨cy, hcy⟩ : ∃ cy, t1[yi]? = some cy := ⟨_, hey⟩
      clear hex hey
      have x0 := (HR1.out.cell hcx (f := 0) (by decide) rfl)
      have x1 := (HR1.out.cell hcx (f := 1) (by decide) rfl)
      have x2 := (HR1.out.cell hcx (f := 2) (by decide) rfl)
      have x3 := (HR1.out.cell hcx (f := 3) (by decide) rfl)
      have y0 := (HR1.out.cell hcy (f := 0) (by decide) rfl)
      have y1 := (HR1.out.cell hcy (f := 1) (by decide) rfl)
      have y2 := (HR1.out.cell hcy (f := 2) (by decide) rfl)
      have y3 := (HR1.out.cell hcy (f := 3) (by decide) rfl)
      rw [Nat.add_zero] at x0 y0
      have sx : IntKind.i64.wrap ((x : Int) + (k : Int)) = (xi : Int) := (IntWalk.i64_in _ (by omega)).trans (by omega)
      have sy : IntKind.i64.wrap ((y : Int) + (k : Int)) = (yi : Int) := (IntWalk.i64_in _ (by omega)).trans (by omega)
      have bx : (xi : Int) < (n : Int) := by omega
      have by' : (yi : Int) < (n : Int) := by omega
      have HXY := Lib.hid (show xi ≠ yi by omega)
      have HXI := Lib.hid (show xi < n by omega)
      have HYI := Lib.hid (show yi < n by omega)
      have HCX := Lib.hid hcx
      have HCY := Lib.hid hcy
      have HL1 := Lib.hid hl1
      clear hxi hyi hcx hcy hl1
      go_wp2_with fail
      have hr2 := HR1.out.set xi (by have := HL1.out; omega) cy
      have HR2 := Lib.hid hr2
      have hcy2 : (t1.set xi cy)[yi]? = some cy := by rw [List.getElem?_set_ne HXY.out]; exact HCY.out
      obtain ⟨_, cur, hcur, _⟩ := HR1.out.block
      obtain ⟨_, cur2, hcur2, _⟩ := hr2.block
      have HR3 := Lib.hid (hr2.set yi (by rw [List.length_set]; have := HL1.out; omega) cx)
      have fx0 := frozen_of_row wr b (xi * 4) _ _ hcur
      have fx1 := frozen_of_row wr b (xi * 4 + 1) _ _ hcur
      have fx2 := frozen_of_row wr b (xi * 4 + 2) _ _ hcur
      have fx3 := frozen_of_row wr b (xi * 4 + 3) _ _ hcur
      have gy0 : ((((wr.setCell ⟨b, xi * 4, none⟩ (.int .u16 cy.r)).setCell ⟨b, xi * 4 + 1, none⟩ (.int .u16 cy.g)).setCell ⟨b, xi * 4 + 2, none⟩ (.int .u16 cy.b)).setCell ⟨b, xi * 4 + 3, none⟩ (.int .u16 cy.a)).cell? ⟨b, yi * 4, none⟩ = some (.int .u16 cy.r) := HR2.out.cell hcy2 (f := 0) (by decide) rfl
      have gf0 : ((((wr.setCell ⟨b, xi * 4, none⟩ (.int .u16 cy.r)).setCell ⟨b, xi * 4 + 1, none⟩ (.int .u16 cy.g)).setCell ⟨b, xi * 4 + 2, none⟩ (.int .u16 cy.b)).setCell ⟨b, xi * 4 + 3, none⟩ (.int .u16 cy.a)).frozen? ⟨b, yi * 4, none⟩ = false := frozen_of_row _ b (yi * 4) _ _ hcur2
      have gy1 : ((((wr.setCell ⟨b, xi * 4, none⟩ (.int .u16 cy.r)).setCell ⟨b, xi * 4 + 1, none⟩ (.int .u16 cy.g)).setCell ⟨b, xi * 4 + 2, none⟩ (.int .u16 cy.b)).setCell ⟨b, xi * 4 + 3, none⟩ (.int .u16 cy.a)).cell? ⟨b, yi * 4 + 1, none⟩ = some (.int .u16 cy.g) := HR2.out.cell hcy2 (f := 1) (by decide) rfl
      have gf1 : ((((wr.setCell ⟨b, xi * 4, none⟩ (.int .u16 cy.r)).setCell ⟨b, xi * 4 + 1, none⟩ (.int .u16 cy.g)).setCell ⟨b, xi * 4 + 2, none⟩ (.int .u16 cy.b)).setCell ⟨b, xi * 4 + 3, none⟩ (.int .u16 cy.a)).frozen? ⟨b, yi * 4 + 1, none⟩ = false := frozen_of_row _ b (yi * 4 + 1) _ _ hcur2
      have gy2 : ((((wr.setCell ⟨b, xi * 4, none⟩ (.int .u16 cy.r)).setCell ⟨b, xi * 4 + 1, none⟩ (.int .u16 cy.g)).setCell ⟨b, xi * 4 + 2, none⟩ (.int .u16 cy.b)).setCell ⟨b, xi * 4 + 3, none⟩ (.int .u16 cy.a)).cell? ⟨b, yi * 4 + 2, none⟩ = some (.int .u16 cy.b) := HR2.out.cell hcy2 (f := 2) (by decide) rfl
      have gf2 : ((((wr.setCell ⟨b, xi * 4, none⟩ (.int .u16 cy.r)).setCell ⟨b, xi * 4 + 1, none⟩ (.int .u16 cy.g)).setCell ⟨b, xi * 4 + 2, none⟩ (.int .u16 cy.b)).setCell ⟨b, xi * 4 + 3, none⟩ (.int .u16 cy.a)).frozen? ⟨b, yi * 4 + 2, none⟩ = false := frozen_of_row _ b (yi * 4 + 2) _ _ hcur2
      have gy3 : ((((wr.setCell ⟨b, xi * 4, none⟩ (.int .u16 cy.r)).setCell ⟨b, xi * 4 + 1, none⟩ (.int .u16 cy.g)).setCell ⟨b, xi * 4 + 2, none⟩ (.int .u16 cy.b)).setCell ⟨b, xi * 4 + 3, none⟩ (.int .u16 cy.a)).cell? ⟨b, yi * 4 + 3, none⟩ = some (.int .u16 cy.a) := HR2.out.cell hcy2 (f := 3) (by decide) rfl
      have gf3 : ((((wr.setCell ⟨b, xi * 4, none⟩ (.int .u16 cy.r)).setCell ⟨b, xi * 4 + 1, none⟩ (.int .u16 cy.g)).setCell ⟨b, xi * 4 + 2, none⟩ (.int .u16 cy.b)).setCell ⟨b, xi * 4 + 3, none⟩ (.int .u16 cy.a)).frozen? ⟨b, yi * 4 + 3, none⟩ = false := frozen_of_row _ b (yi * 4 + 3) _ _ hcur2
      clear hr2 hcur hcur2 hcy2
      go_region
      go_wp2_with fail
      go_roundg (m - (k + 1))
      case measure => have := Hg.out; omega
      case rel =>
        have e : ((((((((wr.setCell ⟨b, xi * 4, none⟩ (.int .u16 cy.r)).setCell ⟨b, xi * 4 + 1, none⟩ (.int .u16 cy.g)).setCell ⟨b, xi * 4 + 2, none⟩ (.int .u16 cy.b)).setCell ⟨b, xi * 4 + 3, none⟩ (.int .u16 cy.a)).setCell ⟨b, yi * 4, none⟩ (.int .u16 cx.r)).setCell ⟨b, yi * 4 + 1, none⟩ (.int .u16 cx.g)).setCell ⟨b, yi * 4 + 2, none⟩ (.int .u16 cx.b)).setCell ⟨b, yi * 4 + 3, none⟩ (.int .u16 cx.a)) = (wr.setCells b (xi * 4) cy.cells).setCells b (yi * 4) cx.cells := by
          simp only [C4.cells, World.setCells, Nat.add_assoc, Nat.reduceAdd]
        have hg4 := (grownBy_setCells b cy.cells (xi * 4) wr).trans (grownBy_setCells b cx.cells (yi * 4) _)
        have hr5 := HR3.out
        rw [e]
        generalize (wr.setCells b (xi * 4) cy.cells).setCells b (yi * 4) cx.cells = w5 at *
        exact ⟨k + 1, (t1.set xi cy).set yi cx, by omega, rfl, by go_num, HM.out.trans (mem_swap (List.mem_of_getElem? HCX.out) (List.mem_of_getElem? HCY.out)), hr5.below (Below.drew (Below.refl _ _)), HG.out.trans (hg4.trans (grown_some (Below.drew (Below.refl _ _))))⟩
    · obtain rfl : k = m := by omega
      go_wp2_with fail
      refine bodyPost_end (results_none rfl _ _ _) rfl ?_
      exact ⟨rfl, t1, HM.out, HR1.out, HG.out⟩
end Go.Proofs.YtioeifbobhdccaaGreatDoor
/- A drawn region within a fence: operations that make memory in any order, then several one after the other. No program in sight. -/
namespace Go.Proofs.YtioeifbobhdccaaGreatDoor
open Go.RowKit

section
variable {F : Fence} {m : Nat} {P : Program} {ops : Array Oper} {Q : Exit → Act → World → Prop} {D : Nat → Nat}

theorem rowsIn_wide0 {row : String} {args : Array Value} {w : World} {R : Value → World → Prop} (h : Rows P row args w R) : RowsIn Fence.wide m P row args w R := by
  intro c cs _
  obtain ⟨v, w', r, s⟩ := h c cs
  exact ⟨v, w', r, stepsIn_wide.2 s⟩
theorem oper_wide {o : Oper} {a : Act} {w : World} {K : Act → World → Prop} (hnd : noDefer o = true) (h : o.wp P a w K Q) : o.wpIn Fence.wide m P a w K Q := by
  refine ⟨fun _ _ => trivial, ?_⟩
  rw [Oper.semAt_eq _ _ _ (noDefer_spec hnd)]
  unfold Oper.wp at h
  generalize (execOp a.eval o).run P w = r at h
  cases r with
  | ok x w' =>
    cases x with
    | enter f args => exact ⟨fun h => by simp [Fence.wide] at h, callsIn_wide.2 h⟩
    | row row args => exact ⟨fun h => by simp [Fence.wide] at h, rowsIn_wide0 h⟩
    | value v => exact h
    | skip => exact h
    | defer d => exact h
    | _ => exact h.elim
  | halt x w' => cases x <;> exact h

theorem wpAnyIn_of_seq : ∀ (l : List Oper) (k : Nat) (listed : Array Bool) (a : Act) (w : World), (∀ j, l[j]? = ops[k + j]?) →
    Region.seqB .any ops l.length k listed = true → wpListIn F m P ops Q l a w → wpAnyIn F m P .any ops Q l.length listed a w
  | [], _, _, _, _, _, hB, h => ⟨by simpa [Region.seqB] using hB, h⟩
  | o :: l, k, listed, a, w, hl, hB, h => by
    have h0 : ops[k]? = some o := by simpa using (hl 0).symm
    simp only [List.length_cons, Region.seqB, Bool.and_eq_true, decide_eq_true_eq] at hB
    refine ⟨fun h1 => (by rw [hB.1] at h1; cases h1), fun i hi => ?_⟩
    rw [hB.1] at hi
    obtain rfl : i = k := by simpa using hi
    have hw : wpOpIn F m P ops Q i (wpListIn F m P ops Q l) a w := by unfold wpOpIn; simp only [h0]; exact h
    exact wpOpIn_mono (fun a' w' h' => wpAnyIn_of_seq l (i + 1) _ a' w' (fun j => by have := hl (j + 1); simpa [Nat.add_assoc, Nat.add_comm 1 j] using this) hB.2 h') hw

theorem wpAnyIn_laid_tails (hF : ∀ {o : Oper} {a : Act} {w : World} {K : Act → World → Prop}, noDefer o = true → o.wp P a w K Q → o.wpIn F m P a w K Q) {R : Nat → Value → World → Prop} {S : Act → World → Prop} {a₀ : Act} {w₀ : World} (n : Nat) (hn : n < ops.size)
    (hb : backs ops = true) (hs : Region.sinkB .any ops n = true) (hc : Region.chainB .any ops n = true) (hq : Region.seqB .any ops (ops.toList.drop n).length n (firstN ops.size n) = true) (hlf : left (firstN ops.size n) = (ops.toList.drop n).length) (hp : plainHead ops D n a₀.tmps.size = true)
    (hR : ∀ i v w w', R i v w → Below w.heap.size w w' → R i v w')
    (hS : ∀ a w, Below w₀.heap.size w₀ w → w₀.heap.size ≤ w.heap.size → (∀ d, (∀ i, i < n → D i ≠ d) → a.tmps[d]? = a₀.tmps[d]?) → S a w)
    (hnd : (ops.toList.take n).all noDefer = true) (hop : AllDo (OpDoes P Q S D R) 0 (ops.toList.take n))
    (hfin : ∀ a w, LaidH n D R a₀ w₀ (Array.replicate ops.size true) a w → wpListIn F m P ops Q (ops.toList.drop n) a w) :
    wpAnyIn F m P .any ops Q ops.size (Array.replicate ops.size false) a₀ { w₀ with drawn := w₀.drawn + 1 } := by
  have key : ∀ fuel listed a w, listed.size = ops.size → left listed = fuel → HeadInv .any ops n listed → LaidH n D R a₀ w₀ listed a w → wpAnyIn F m P .any ops Q fuel listed a w := by
    intro fuel
    induction fuel with
    | zero =>
      intro listed a w hsz hl hH _
      exfalso
      have h1 := left_zero listed hl n
      rw [hH.tail n (Nat.le_refl _) hn] at h1
      cases h1
    | succ f ih =>
      intro listed a w hsz hl hH hI
      by_cases hall : ∀ j, j < n → listed.getD j false = true
      · have he := eq_firstN hsz hall hH.tail
        have hL : LaidH n D R a₀ w₀ (Array.replicate ops.size true) a w := ⟨hI.below, hI.defers, hI.size, hI.old, fun j hj _ => hI.new j hj (hall j hj)⟩
        have := wpAnyIn_of_seq (F := F) (m := m) (P := P) (Q := Q) (ops.toList.drop n) n listed a w (fun j => by simp [List.getElem?_drop]) (by rw [he]; exact hq) (hfin a w hL)
        rw [← hlf, ← he, hl] at this
        exact this
      · obtain ⟨j0, hj0⟩ := Classical.not_forall.1 hall
        obtain ⟨hj0n, hj0f⟩ := Classical.not_imp.1 hj0
        have hj0t : listed.getD j0 true = false := by
          have : j0 < listed.size := by rw [hsz]; omega
          simp [this] at hj0f ⊢; exact hj0f
        refine ⟨fun hnil => ?_, fun i hi => ?_⟩
        · exfalso
          have h1 := all_listed hb hsz hnil n hn
          have h2 := hH.tail n (Nat.le_refl _) hn
          have h3 : n < listed.size := by rw [hsz]; exact hn
          simp [h3] at h1 h2
          rw [h2] at h1; cases h1
        · have hin : i < n := by
            rcases Nat.lt_or_ge i n with h | h
            · exact h
            · exact absurd hi (tail_waits hs hc hn hH _ j0 rfl hj0n hj0t i h)
          have hi0 := hi
          obtain ⟨hun, o, ho, hal⟩ := mem_ready.1 hi
          have hlt : i < ops.size := (Array.getElem?_eq_some_iff.1 ho).1
          obtain ⟨hg, hd, hdn⟩ := plainHead_at hp hin ho
          have hwanted : Region.wanted o (yielded ops a.tmps) = true := by simp [Region.wanted, hg]
          have hdo := AllDo.at hop (i := i) (o := o) (by simpa [List.getElem?_take, hin] using ho)
          rw [Nat.zero_add] at hdo
          have hnd' : noDefer o = true := List.all_eq_true.1 hnd o (List.mem_of_getElem? (i := i) (by simpa [List.getElem?_take, hin] using ho))
          unfold wpOpIn
          simp only [ho, hwanted, if_true]
          refine hF hnd' (Oper.wp_mono ?_ (hdo a w (hS a w hI.below hI.below.size hI.old) fun j hj => ?_))
          · rintro a' w' ⟨v, rfl, hRv, hbw⟩
            rw [hd]
            refine ih _ _ _ (by simpa using hsz) ?_ (hH.set hi0 hin) ⟨hI.below.trans (hbw.mono hI.below.size), hI.defers, ?_, ?_, ?_⟩
            · have := left_set listed i hun
              omega
            · simpa [Act.put] using hI.size
            · intro d hdd
              have : D i ≠ d := hdd i hin
              simp only [Act.put, Array.getElem?_setIfInBounds_ne this]
              exact hI.old d hdd
            · intro j hj hjl
              by_cases hij : i = j
              · subst hij
                exact ⟨v, by simp [Act.put, hI.size, hdn], hRv⟩
              · rw [getD_set_ne false hij] at hjl
                obtain ⟨u, hu, hRu⟩ := hI.new j hj hjl
                refine ⟨u, ?_, hR j u w w' hRu hbw⟩
                simp only [Act.put, Array.getElem?_setIfInBounds_ne (plainHead_ne hp hin hj hij)]
                exact hu
          · obtain ⟨e, he, hbd⟩ := Array.any_eq_true'.1 hj
            simp only [Bool.and_eq_true, beq_iff_eq] at hbd
            have hl := hal e he hbd.2
            rw [hbd.1] at hl
            have hjn : j < n := by
              have h1 := List.all_eq_true.1 hb i (List.mem_range.2 hlt)
              rw [ho] at h1
              have h2 := Array.all_eq_true_iff_forall_mem.1 h1 e he
              have : e.on < i := by simpa using h2
              omega
            exact hI.new j hjn hl
  refine key _ _ _ _ (by simp) (by simp [left]) ⟨by simp, fun j oj _ hl => (by rw [getD_replicate_false] at hl; cases hl), fun t _ ht => getD_in (by simpa using ht) (getD_replicate_false _ _)⟩ ⟨Below.drew (Below.refl _ _), rfl, rfl, fun _ _ => rfl, fun i hi hl => ?_⟩
  rw [getD_replicate_false] at hl; cases hl
end
end Go.Proofs.YtioeifbobhdccaaGreatDoor
