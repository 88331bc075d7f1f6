/- Structs as the keys of maps. -/
import Derived.Test.YtioeifbobhdccaaGreatDoorM10
import Derived.Test.YtioeifbobhdccaaGreatDoorM11
import Derived.Maps.OwnSet
import Derived.DeepKeys5
import Derived.Test.YtioeifbobhdccaaGreatDoorM7
import Derived.Test.YtioeifbobhdccaaGreatDoorM5
namespace Go.Proofs.YtioeifbobhdccaaGreatDoor
open Go.RowKit Go.Sort Go.Maps

theorem laidOut : laidOutB Tryz.prog = true := by kernel_rfl
theorem row_pair : 161 < Tryz.prog.types.size := of_decide_eq_true (by kernel_rfl)
theorem law_pair : Keyed Tryz.prog 161 := Keyed.of_law (deep_law_laid laidOut (m := 3) (by omega) row_pair (by kernel_rfl) (by kernel_rfl))
theorem types_big : (decide (2 ≤ Tryz.prog.types.size)) = true := by kernel_rfl
theorem types_size : ∃ m, Tryz.prog.types.size = m + 2 := ⟨Tryz.prog.types.size - 2, by have := of_decide_eq_true types_big; omega⟩
def lz.key (p : Nat) (x : Int) : Lit := .string (keyBytes [.int .i64 (p : Nat), .int .u8 x])
theorem keyOf_pair (p : Nat) (x : Int) (hp : p < 1125899906842624) (hx : 0 ≤ x ∧ x < 256) : keyOf Tryz.prog 161 (.agg #[.int .i64 (p : Nat), .int .u8 x]) = some (lz.key p x) := by
  have w1 : (Lit.int .i64 (p : Nat)).wf = true := by simp [Lit.wf, IntKind.min, IntKind.max, IntKind.bits, IntKind.signed]; omega
  have w2 : (Lit.int .u8 x).wf = true := by simp [Lit.wf, IntKind.min, IntKind.max, IntKind.bits, IntKind.signed]; omega
  have h1 : Tryz.prog.keyType 161 = true := by kernel_rfl
  have h2 : Tryz.prog.cellsOf 161 = 2 := by kernel_rfl
  have h3 : Tryz.prog.cellsOf 3 = 1 := by kernel_rfl
  have h4 : Tryz.prog.cellsOf 5 = 1 := by kernel_rfl
  have hu := Tryz.underlying161
  obtain ⟨m, hm⟩ := types_size
  unfold keyOf
  simp only [hu]
  rw [if_pos (by simp [h1, Value.formed, hu, h2]), hm]
  unfold Program.keyLits
  simp only [hu, Value.cells]
  rw [if_pos (by rw [h2]; exact ⟨rfl, by simp⟩)]
  have e1 : Tryz.prog.keyLits (m + 2) 3 [.int .i64 (p : Nat)] = some [.int .i64 (p : Nat)] := by
    unfold Program.keyLits
    rw [show Tryz.prog.underlying 3 = some (.int .i64) from Tryz.underlying3]
    simp only
    rw [if_pos ⟨trivial, w1⟩]
  have e2 : Tryz.prog.keyLits (m + 2) 5 [.int .u8 x] = some [.int .u8 x] := by
    unfold Program.keyLits
    rw [show Tryz.prog.underlying 5 = some (.int .u8) from Tryz.underlying5]
    simp only
    rw [if_pos ⟨trivial, w2⟩]
  simp [List.mapM_cons, List.mapM_nil, h3, h4, e1, e2, lz.key]
theorem pair_wide : (match Tryz.prog.underlying 161 with | some (.array _ _) | some (.struct _) => true | _ => false) = true := by kernel_rfl
theorem key_inj {p p' : Nat} {x x' : Int} (hp : p < 1125899906842624) (hx : 0 ≤ x ∧ x < 256) (hp' : p' < 1125899906842624) (hx' : 0 ≤ x' ∧ x' < 256) (h : lz.key p x = lz.key p' x') : p = p' ∧ x = x' := by
  have h1 := keyOf_pair p x hp hx
  have h2 := keyOf_pair p' x' hp' hx'
  rw [← h] at h2
  have := law_pair.inj h1 h2
  simp at this
  omega
end Go.Proofs.YtioeifbobhdccaaGreatDoor
/- Rows of colours; colours as keys of maps. -/
namespace Go.Proofs.YtioeifbobhdccaaGreatDoor
open Go.RowKit Go.Sort Go.Maps

theorem infoCol : (Tryz.prog.info? 38).map (fun i => (i.zero, i.size, i.bytes)) = some (some (.agg #[.int .u16 0, .int .u16 0, .int .u16 0, .int .u16 0]), 4, 8) := by kernel_rfl
theorem colSize4 (a b c d : Value) : (Tryz.prog.info? 38).map (·.size) = some (#[a, b, c, d] : Array Value).size := by
  have h : (Tryz.prog.info? 38).map (·.size) = some 4 := by kernel_rfl
  exact h
theorem colOne (r g b a : Int) : (#[.int .u16 r, .int .u16 g, .int .u16 b, .int .u16 a] : Array Value).all (·.oneCell') = true := by simp [Value.oneCell']
def C4.cells (c : C4) : List Value := [.int .u16 c.r, .int .u16 c.g, .int .u16 c.b, .int .u16 c.a]
def C4.val (c : C4) : Value := .agg #[.int .u16 c.r, .int .u16 c.g, .int .u16 c.b, .int .u16 c.a]
theorem C4.cells_one (c : C4) : ∀ u ∈ c.cells, u.oneCell' = true := by
  intro u hu
  simp only [C4.cells, List.mem_cons, List.not_mem_nil, or_false] at hu
  rcases hu with rfl | rfl | rfl | rfl <;> rfl
theorem C4.eq {c d : C4} (h0 : c.r = d.r) (h1 : c.g = d.g) (h2 : c.b = d.b) (h3 : c.a = d.a) : c = d := by
  cases c; cases d; simp_all
instance : DecidableEq C4 := fun c d =>
  if h : c.r = d.r ∧ c.g = d.g ∧ c.b = d.b ∧ c.a = d.a then isTrue (C4.eq h.1 h.2.1 h.2.2.1 h.2.2.2) else isFalse (by rintro rfl; exact h ⟨rfl, rfl, rfl, rfl⟩)
def colRow (t : List C4) : List Value := t.flatMap C4.cells
theorem colRow_snoc (t : List C4) (c : C4) : colRow (t ++ [c]) = colRow t ++ c.cells := by simp [colRow]
theorem colRow_length (t : List C4) : (colRow t).length = t.length * 4 := by
  induction t with
  | nil => rfl
  | cons e r ih =>
    simp only [colRow, List.flatMap_cons, List.length_append, List.length_cons] at ih ⊢
    rw [ih]
    simp [C4.cells]
    omega
theorem colRow_get : ∀ (t : List C4) (i : Nat), (colRow t)[i]? = (t[i / 4]?).bind fun e => e.cells[i % 4]?
  | [], i => by simp [colRow]
  | e :: r, i => by
    have hc : (colRow (e :: r)) = e.cells ++ colRow r := by simp [colRow]
    have hl : e.cells.length = 4 := rfl
    rw [hc]
    rcases Nat.lt_or_ge i 4 with h | h
    · rw [List.getElem?_append_left (by rw [hl]; exact h), show i / 4 = 0 by omega, show i % 4 = i by omega]
      rfl
    · rw [List.getElem?_append_right (by rw [hl]; exact h), hl, colRow_get r (i - 4), show i / 4 = (i - 4) / 4 + 1 by omega, List.getElem?_cons_succ, show (i - 4) % 4 = i % 4 by omega]
/-- a row of colours of one's own -/
def OwnC (base : Nat) (w : World) (v : Value) (t : List C4) : Prop := w.ownsRow base 38 4 v t.length (colRow t)
theorem OwnC.below {base : Nat} {w w' : World} {v : Value} {t : List C4} (h : OwnC base w v t) (hb : Below w.heap.size w w') : OwnC base w' v t := ownsRow_below h hb
theorem OwnC.rd {base : Nat} {w : World} {v : Value} {t : List C4} (h : OwnC base w v t) : ∃ a c, v = .slice a t.length c ∧ t.length ≤ c ∧ c ≤ maxLen ∧ RdC w a t ∧ (a = none → c = 0) := by
  obtain ⟨a, c, rfl, h1, h2, h3⟩ := own_slice' h
  refine ⟨a, c, rfl, h1, h2, ?_, ?_⟩
  · rcases h3 with ⟨h4, _⟩ | ⟨g, rfl, h4⟩
    · exact .inl (List.eq_nil_of_length_eq_zero h4)
    · refine .inr ⟨g, 0, rfl, fun i hi => ?_⟩
      have key : ∀ f u, f < 4 → (t.getD i C4.zero).cells[f]? = some u → w.cell? ⟨g, 0 + i * 4 + f, none⟩ = some u := by
        intro f u hf hu
        rw [Nat.zero_add]
        refine h4 (i * 4 + f) u ?_
        rw [colRow_get, show (i * 4 + f) / 4 = i by omega, show (i * 4 + f) % 4 = f by omega, List.getElem?_eq_getElem hi]
        rw [List.getD_eq_getElem?_getD, List.getElem?_eq_getElem hi] at hu
        exact hu
      exact ⟨key 0 _ (by decide) rfl, key 1 _ (by decide) rfl, key 2 _ (by decide) rfl, key 3 _ (by decide) rfl⟩
  · intro e
    rcases h3 with ⟨_, h5⟩ | ⟨g, rfl, _⟩
    · exact h5
    · cases e
/-- a colour appended -/
theorem run_append_col (w : World) (ty : TypeId) (base : Nat) (v : Value) (t : List C4) (c : C4) (h : OwnC base w v t) (ht : t.length ≤ 1099511627776) (hb : base ≤ w.heap.size) (g : Nat) (hg : w.heap[g]? = some (.cells #[.int .u16 c.r, .int .u16 c.g, .int .u16 c.b, .int .u16 c.a] 38 (0, 0))) :
    ∃ v' w', (Builtin.append_ #[34, 34] ty #[v, .slice (some ⟨g, 0, none⟩) 1 1]).run Tryz.prog w = .ok v' w' ∧ (OwnC base w' v' (t ++ [c]) ∧ w.grownBy w' v.ownBlock ∧ (v'.ownBlock = v.ownBlock ∨ v'.ownBlock = some w.heap.size)) := by
  obtain ⟨i, hi, hz, hs, hby⟩ := info_parts infoCol
  obtain ⟨v', w', h1, h2, h3, _, h5⟩ := run_append_own_at (P := Tryz.prog) w base 34 ty 38 i _ 4 8 Tryz.underlying34 hi hz hs hby rfl (by decide) v t.length (colRow t) h ⟨g, 0, none⟩ 1 1 c.cells rfl (by
    intro j u hu
    have h1 : (⟨g, 0, none⟩ : Addr).add j = ⟨g, j, none⟩ := by unfold Addr.add; split <;> simp_all
    rw [h1, cell_of_row w g j _ _ (0, 0) hg]
    rw [← hu]
    simp [C4.cells]) c.cells_one (by unfold maxLen; omega) (by omega) hb
  refine ⟨v', w', h1, ?_, h3, h5⟩
  unfold OwnC
  rw [colRow_snoc, List.length_append]
  exact h2

/-! ### keys -/
theorem row_col : 38 < Tryz.prog.types.size := of_decide_eq_true (by kernel_rfl)
theorem law_col : Keyed Tryz.prog 38 := Keyed.of_law (deep_law_laid laidOut (m := 3) (by omega) row_col (by kernel_rfl) (by kernel_rfl))
def C4.key (c : C4) : Lit := .string (keyBytes [.int .u16 c.r, .int .u16 c.g, .int .u16 c.b, .int .u16 c.a])
theorem keyOf_col (c : C4) (hc : c.ok) : keyOf Tryz.prog 38 (.agg #[.int .u16 c.r, .int .u16 c.g, .int .u16 c.b, .int .u16 c.a]) = some c.key := by
  have wf : ∀ v : Int, 0 ≤ v ∧ v ≤ 65535 → (Lit.int .u16 v).wf = true := by
    intro v hv
    simp [Lit.wf, IntKind.min, IntKind.max, IntKind.bits, IntKind.signed]
    omega
  have w1 := wf _ hc.1
  have w2 := wf _ hc.2.1
  have w3 := wf _ hc.2.2.1
  have w4 := wf _ hc.2.2.2
  have h1 : Tryz.prog.keyType 38 = true := by kernel_rfl
  have h2 : Tryz.prog.cellsOf 38 = 4 := by kernel_rfl
  have h3 : Tryz.prog.cellsOf 36 = 1 := by kernel_rfl
  have hu := Tryz.underlying38
  obtain ⟨m, hm⟩ := types_size
  unfold keyOf
  simp only [hu]
  rw [if_pos (by simp [h1, Value.formed, hu, h2]), hm]
  unfold Program.keyLits
  simp only [hu, Value.cells]
  rw [if_pos (by rw [h2]; exact ⟨rfl, by simp⟩)]
  have e1 : ∀ v : Int, (Lit.int .u16 v).wf = true → Tryz.prog.keyLits (m + 2) 36 [.int .u16 v] = some [.int .u16 v] := by
    intro v hv
    unfold Program.keyLits
    rw [show Tryz.prog.underlying 36 = some (.int .u16) from Tryz.underlying36]
    simp only
    rw [if_pos ⟨trivial, hv⟩]
  simp [List.mapM_cons, List.mapM_nil, h3, e1 _ w1, e1 _ w2, e1 _ w3, e1 _ w4, C4.key]
theorem col_key_inj {c d : C4} (hc : c.ok) (hd : d.ok) (h : c.key = d.key) : c = d := by
  have h1 := keyOf_col c hc
  have h2 := keyOf_col d hd
  rw [← h] at h2
  have := law_col.inj h1 h2
  simp at this
  exact C4.eq this.1 this.2.1 this.2.2.1 this.2.2.2
/-- a set of colours -/
def SetC (w : World) (mb cnt : Nat) (cs : List C4) : Prop :=
  ∃ D : DataW Unit, w.ownsMap Tryz.prog 38 (unitElem (H := Unit)) mb cnt D ∧ ∀ c : C4, c.ok → Maps.has D c.key = decide (c ∈ cs)
theorem SetC.same {w w' : World} {mb cnt : Nat} {cs : List C4} (h : SetC w mb cnt cs) (hs : ∀ o, w.heap[mb]? = some o → w'.heap[mb]? = some o) : SetC w' mb cnt cs := by
  obtain ⟨D, ⟨es, clock, h1, h2, h3, h4⟩, h5⟩ := h
  exact ⟨D, ⟨es, clock, hs _ h1, h2, h3, h4⟩, h5⟩
theorem SetC.block {w : World} {mb cnt : Nat} {cs : List C4} (h : SetC w mb cnt cs) : ∃ es clock, w.heap[mb]? = some (.map es clock) := by
  obtain ⟨D, ⟨es, clock, h1, _⟩, _⟩ := h
  exact ⟨es, clock, h1⟩
theorem setC_none {w : World} {mb : Nat} (h : w.heap[mb]? = some (.map #[] 0)) : SetC w mb 0 [] := by
  have h1 := World.ownsMap_made (H := Unit) ({ w with heap := #[] } : World) Tryz.prog 38 (unitElem (H := Unit))
  obtain ⟨es, clock, h2, h3, h4, h5⟩ := h1
  have h6 : some (Obj.map #[] 0) = some (.map es clock) := by rw [← h2]; rfl
  injection h6 with h6
  injection h6 with h7 h8
  subst h7; subst h8
  exact ⟨.map [], ⟨#[], 0, h, h3, h4, h5⟩, fun c _ => by simp [Maps.has]⟩
theorem setC_put {w' : World} {mb cnt : Nat} {cs : List C4} {D : DataW Unit} {c : C4} (hc : c.ok) (hD : ∀ c : C4, c.ok → Maps.has D c.key = decide (c ∈ cs)) (hm : IsMap D) (d : DataW Unit)
    (ho : w'.ownsMap Tryz.prog 38 (unitElem (H := Unit)) mb cnt (D.put c.key d)) : SetC w' mb cnt (cs ++ [c]) := by
  refine ⟨_, ho, fun x hx => ?_⟩
  have hk := law_col.key (keyOf_col c hc)
  by_cases e : x = c
  · subst e
    rw [has_put_same hm hk]
    simp
  · have hne : x.key ≠ c.key := fun e' => e (col_key_inj hx hc e')
    rw [has_put_other hne, hD x hx]
    simp [e]
/-- numbers by colours -/
def MapC (w : World) (mb cnt : Nat) (f : C4 → Option Int) : Prop :=
  ∃ D : DataW Unit, w.ownsMap Tryz.prog 38 (plainElem Tryz.prog 3) mb cnt D ∧ ∀ c : C4, c.ok →
    match f c with
    | some k => Maps.has D c.key = true ∧ D.atKey c.key (.lit (.int .i64 0)) = .lit (.int .i64 k)
    | none => Maps.has D c.key = false
theorem MapC.same {w w' : World} {mb cnt : Nat} {f : C4 → Option Int} (h : MapC w mb cnt f) (hs : ∀ o, w.heap[mb]? = some o → w'.heap[mb]? = some o) : MapC w' mb cnt f := by
  obtain ⟨D, ⟨es, clock, h1, h2, h3, h4⟩, h5⟩ := h
  exact ⟨D, ⟨es, clock, hs _ h1, h2, h3, h4⟩, h5⟩
theorem MapC.block {w : World} {mb cnt : Nat} {f : C4 → Option Int} (h : MapC w mb cnt f) : ∃ es clock, w.heap[mb]? = some (.map es clock) := by
  obtain ⟨D, ⟨es, clock, h1, _⟩, _⟩ := h
  exact ⟨es, clock, h1⟩
theorem mapC_none {w : World} {mb : Nat} (h : w.heap[mb]? = some (.map #[] 0)) : MapC w mb 0 (fun _ => none) := by
  have h1 := World.ownsMap_made (H := Unit) ({ w with heap := #[] } : World) Tryz.prog 38 (plainElem Tryz.prog 3)
  obtain ⟨es, clock, h2, h3, h4, h5⟩ := h1
  have h6 : some (Obj.map #[] 0) = some (.map es clock) := by rw [← h2]; rfl
  injection h6 with h6
  injection h6 with h7 h8
  subst h7; subst h8
  exact ⟨.map [], ⟨#[], 0, h, h3, h4, h5⟩, fun c _ => rfl⟩
theorem mapC_put {w' : World} {mb cnt : Nat} {f : C4 → Option Int} {D : DataW Unit} {c : C4} {k : Int} (hc : c.ok) (hD : ∀ c : C4, c.ok → match f c with | some k => Maps.has D c.key = true ∧ D.atKey c.key (.lit (.int .i64 0)) = .lit (.int .i64 k) | none => Maps.has D c.key = false) (hm : IsMap D)
    (ho : w'.ownsMap Tryz.prog 38 (plainElem Tryz.prog 3) mb cnt (D.put c.key (.lit (.int .i64 k)))) : MapC w' mb cnt (fun x => if x = c then some k else f x) := by
  refine ⟨_, ho, fun x hx => ?_⟩
  have hk := law_col.key (keyOf_col c hc)
  by_cases e : x = c
  · subst e
    simp only [if_true]
    exact ⟨has_put_same hm hk _, atKey_put_same hm hk _ _⟩
  · have hne : x.key ≠ c.key := fun e' => e (col_key_inj hx hc e')
    simp only [if_neg e]
    rw [has_put_other hne, atKey_put_other hne]
    exact hD x hx
end Go.Proofs.YtioeifbobhdccaaGreatDoor
/- Colours: the small functions. -/
namespace Go.Proofs.YtioeifbobhdccaaGreatDoor
open Go.RowKit Go.Sort

/-- a sample rounded to eight bits -/
def e8 (v : Int) : Int := 257 * tm.downV v 255
theorem downV_range {v : Int} (hv : 0 ≤ v ∧ v ≤ 65535) : 0 ≤ tm.downV v 255 ∧ tm.downV v 255 ≤ 255 := by
  unfold tm.downV
  rw [if_neg (by unfold tm.downBad; omega)]
  omega
theorem e8_range {v : Int} (hv : 0 ≤ v ∧ v ≤ 65535) : 0 ≤ e8 v ∧ e8 v ≤ 65535 := by
  have := downV_range hv
  unfold e8
  omega
def C4.eight (c : C4) : C4 := ⟨e8 c.r, e8 c.g, e8 c.b, 65535⟩
theorem C4.eight_ok {c : C4} (h : c.ok) : c.eight.ok := ⟨e8_range h.1, e8_range h.2.1, e8_range h.2.2.1, by simp [C4.eight]⟩
set_option maxRecDepth 100000 in
theorem eight1_any (v : Int) (hv : 0 ≤ v ∧ v ≤ 65535) (w : World) : Calls Tryz.prog 70 #[.int .u16 v] w fun e w' => e = .returned (.int .u16 (e8 v)) ∧ w = w' := by
  have hx := downV_range hv
  have CD := Lib.hid (down_any v 255 w hv)
  have h8 : e8 v = 257 * tm.downV v 255 := rfl
  have H8 := Lib.hid h8
  obtain ⟨x, hxx⟩ : ∃ x, tm.downV v 255 = x := ⟨_, rfl⟩
  rw [hxx] at CD hx H8
  clear hxx h8
  go_enter Tryz.func70, Tryz.ntmps70
  go_wp2_with fail
  refine CD.out.mono ?_
  rintro e w1 ⟨rfl, rfl⟩
  have hw : IntKind.u16.wrap (257 * x) = 257 * x := by rw [IntKind.wrap_u16]; omega
  go_wp2_with fail
  go_ret
  exact ⟨by rw [H8.out]; go_num, rfl⟩
def ColPost (c : C4) (w : World) (e : Ending) (w' : World) : Prop := e = .returned (.agg #[.int .u16 c.r, .int .u16 c.g, .int .u16 c.b, .int .u16 c.a]) ∧ Below w.heap.size w w'
theorem eight1_grown (v : Int) (hv : 0 ≤ v ∧ v ≤ 65535) (w : World) (d : Nat) (os : Array Obj) : Calls Tryz.prog 70 #[.int .u16 v] (grow (redrawn w d) os) fun e w'' => e = .returned (.int .u16 (e8 v)) ∧ ∃ p : Regrown, w'' = grow (redrawn w p.d) p.os :=
  (eight1_any v hv _).mono (by rintro e w' ⟨rfl, rfl⟩; exact ⟨rfl, ⟨d, os⟩, rfl⟩)
set_option maxRecDepth 100000 in
set_option maxHeartbeats 800000 in
theorem eight_any (c : C4) (hc : c.ok) (w : World) : Calls Tryz.prog 37 #[.agg #[.int .u16 c.r, .int .u16 c.g, .int .u16 c.b, .int .u16 c.a]] w (ColPost c.eight w) := by
  obtain ⟨q0, q1⟩ := heap2 w (.cells #[.int .u16 c.r, .int .u16 c.g, .int .u16 c.b, .int .u16 c.a] 38) (.cells #[.int .u16 0, .int .u16 0, .int .u16 0, .int .u16 0] 38)
  have B0 := Lib.hid (((Below.refl w.heap.size w).alloc (Nat.le_refl _) (.cells #[.int .u16 c.r, .int .u16 c.g, .int .u16 c.b, .int .u16 c.a] 38)).alloc (by simp) (.cells #[.int .u16 0, .int .u16 0, .int .u16 0, .int .u16 0] 38))
  have Q0 := Lib.hid q0
  have Q1 := Lib.hid q1
  have HV : Hid (c.eight = ⟨e8 c.r, e8 c.g, e8 c.b, 65535⟩) := Lib.hid rfl
  have C0 := Lib.hid (fun w1 => eight1_grown c.r hc.1 w1)
  have C1 := Lib.hid (fun w1 => eight1_grown c.g hc.2.1 w1)
  have C2 := Lib.hid (fun w1 => eight1_grown c.b hc.2.2.1 w1)
  generalize c.eight = ce at *
  obtain ⟨y0, hy0⟩ : ∃ y, e8 c.r = y := ⟨_, rfl⟩
  obtain ⟨y1, hy1⟩ : ∃ y, e8 c.g = y := ⟨_, rfl⟩
  obtain ⟨y2, hy2⟩ : ∃ y, e8 c.b = y := ⟨_, rfl⟩
  rw [hy0, hy1, hy2] at HV
  rw [hy0] at C0
  rw [hy1] at C1
  rw [hy2] at C2
  clear q0 q1 hc hy0 hy1 hy2
  go_enter Tryz.func37, Tryz.ntmps37
  go_wp2_with fail
  generalize (w.alloc (.cells #[.int .u16 c.r, .int .u16 c.g, .int .u16 c.b, .int .u16 c.a] 38)).alloc (.cells #[.int .u16 0, .int .u16 0, .int .u16 0, .int .u16 0] 38) = w1 at *
  have a0 := cell_regrown ((cell_of_row w1 _ 0 _ _ (0, 0) Q0.out).trans (show _ = some (Value.int .u16 c.r) from rfl))
  have a1 := cell_regrown ((cell_of_row w1 _ 1 _ _ (0, 0) Q0.out).trans (show _ = some (Value.int .u16 c.g) from rfl))
  have a2 := cell_regrown ((cell_of_row w1 _ 2 _ _ (0, 0) Q0.out).trans (show _ = some (Value.int .u16 c.b) from rfl))
  refine wp_region_quiet_tail 13 (by kernel_rfl) (by kernel_rfl) ?_
  simp only [List.take_succ_cons, List.take_zero, List.drop_succ_cons, List.drop_zero]
  go_big_quiet_step (fail)
  go_big_quiet_step (fail)
  go_big_quiet_step (fail)
  go_big_quiet_step (exact C0.out _ _ _)
  go_big_quiet_step (fail)
  go_big_quiet_step (fail)
  go_big_quiet_step (fail)
  go_big_quiet_step (exact C1.out _ _ _)
  go_big_quiet_step (fail)
  go_big_quiet_step (fail)
  go_big_quiet_step (fail)
  go_big_quiet_step (exact C2.out _ _ _)
  go_big_quiet_step (fail)
  refine wpQuiet_nil ?_
  intro _ hw'
  obtain ⟨⟨dq, osq⟩, hw''⟩ := hw'
  subst hw''
  have hb := below_regrown w1 dq osq
  clear a0 a1 a2
  generalize grow (redrawn w1 dq) osq = w4 at *
  have R4 := Lib.hid ((hb.block _ (block_lt Q1.out)).trans Q1.out)
  have HB4 := Lib.hid (B0.out.trans (hb.mono B0.out.size))
  clear hb
  refine wpList_store_row rfl 38 _ _ rfl (w.heap.size + 1) #[.int .u16 y0, .int .u16 y1, .int .u16 y2, .int .u16 65535] rfl rfl 38 _ R4.out (colSize4 _ _ _ _) rfl (colOne _ _ _ _) ?_
  go_wp2_with fail
  exact bodyPost_ret (results_cell_row (p := 2) (ty := 38) rfl _ _ (w.heap.size + 1) 38 _ (0, 0) _ rfl (setRow_heap _ _ _ _ _ _ R4.out) Tryz.underlying38 rfl (colSize4 _ _ _ _)) rfl ⟨by rw [HV.out], below_setRow HB4.out (by omega) _⟩
set_option maxRecDepth 100000 in
theorem clear_any (c : C4) (w : World) : Calls Tryz.prog 36 #[.agg #[.int .u16 c.r, .int .u16 c.g, .int .u16 c.b, .int .u16 c.a]] w fun e w' => e = .returned (.bool (decide (c.a < 32768))) ∧ Below w.heap.size w w' := by
  have B0 := Lib.hid ((Below.refl w.heap.size w).alloc (Nat.le_refl _) (.cells #[.int .u16 c.r, .int .u16 c.g, .int .u16 c.b, .int .u16 c.a] 38))
  go_enter Tryz.func36, Tryz.ntmps36
  go_wp2_with fail
  go_ret
  exact ⟨rfl, B0.out⟩
set_option maxRecDepth 100000 in
theorem none_any (c : C4) (w : World) : Calls Tryz.prog 33 #[.agg #[.int .u16 c.r, .int .u16 c.g, .int .u16 c.b, .int .u16 c.a]] w fun e w' => e = .returned (.bool (c.a == 0)) ∧ Below w.heap.size w w' := by
  have B0 := Lib.hid ((Below.refl w.heap.size w).alloc (Nat.le_refl _) (.cells #[.int .u16 c.r, .int .u16 c.g, .int .u16 c.b, .int .u16 c.a] 38))
  go_enter Tryz.func33, Tryz.ntmps33
  go_wp2_with fail
  go_ret
  exact ⟨rfl, B0.out⟩
theorem intInfo : ∃ i, Tryz.prog.info? 3 = some i ∧ i.size = 1 := by
  have h : (Tryz.prog.info? 3).map (·.size) = some 1 := by kernel_rfl
  cases hq : Tryz.prog.info? 3 with
  | none => rw [hq] at h; cases h
  | some i => rw [hq] at h; exact ⟨i, rfl, Option.some.inj h⟩
/-- one sample of a colour -/
def C4.axis (c : C4) (k : Nat) : Int := if k = 0 then c.r else if k = 1 then c.g else c.b
set_option maxRecDepth 100000 in
theorem axis_any (c : C4) (hc : c.ok) (k : Nat) (hk : k < 3) (w : World) : Calls Tryz.prog 58 #[.agg #[.int .u16 c.r, .int .u16 c.g, .int .u16 c.b, .int .u16 c.a], .int .i64 (k : Nat)] w fun e w' => e = .returned (.int .i64 (c.axis k)) ∧ Below w.heap.size w w' := by
  have B0 := Lib.hid ((Below.refl w.heap.size w).alloc (Nat.le_refl _) (.cells #[.int .u16 c.r, .int .u16 c.g, .int .u16 c.b, .int .u16 c.a] 38))
  obtain ⟨h1, h2, h3, _⟩ := hc
  have hk3 : k = 0 ∨ k = 1 ∨ k = 2 := by omega
  have hix : ∀ w, (Instr.index 153 (.agg #[.int .i64 c.r, .int .i64 c.g, .int .i64 c.b]) (.int .i64 (k : Nat))).run Tryz.prog w = .ok (.int .i64 (c.axis k)) w := by
    intro w
    have h := run_index_ints (P := Tryz.prog) (T := 153) (E := 3) (n := 3) Tryz.underlying153 Tryz.underlying3 intInfo.choose_spec.1 intInfo.choose_spec.2 [c.r, c.g, c.b] rfl k hk w
    have e : [c.r, c.g, c.b].getD k 0 = c.axis k := by rcases hk3 with rfl | rfl | rfl <;> rfl
    rw [e] at h
    exact h
  have hk0 : (0 : Int) ≤ (k : Int) := by omega
  obtain ⟨z, hz⟩ : ∃ z, c.axis k = z := ⟨_, rfl⟩
  rw [hz] at hix ⊢
  clear hz hk3
  go_enter Tryz.func58, Tryz.ntmps58
  go_wp2_with fail
  go_ret
  exact ⟨rfl, B0.out⟩
set_option maxRecDepth 100000 in
set_option maxHeartbeats 800000 in
theorem colour_any (b o n cap : Nat) (l : List Int) (w : World) (h : Sl .u16 w (some ⟨b, o, none⟩) n cap l) (hn : 4 ≤ n) : Calls Tryz.prog 30 #[.slice (some ⟨b, o, none⟩) n cap] w (ColPost ⟨l.getD 0 0, l.getD 1 0, l.getD 2 0, l.getD 3 0⟩ w) := by
  obtain ⟨b', o', e, hc⟩ := h.cells (by omega)
  simp only [Option.some.injEq, Addr.mk.injEq, and_true] at e
  obtain ⟨rfl, rfl⟩ := e
  have hk := fun i (hi : i < 4) => hc i (by omega)
  obtain ⟨x0, e0⟩ : ∃ x, l.getD 0 0 = x := ⟨_, rfl⟩
  obtain ⟨x1, e1⟩ : ∃ x, l.getD 1 0 = x := ⟨_, rfl⟩
  obtain ⟨x2, e2⟩ : ∃ x, l.getD 2 0 = x := ⟨_, rfl⟩
  obtain ⟨x3, e3⟩ : ∃ x, l.getD 3 0 = x := ⟨_, rfl⟩
  have k0 := hk 0 (by decide)
  have k1 := hk 1 (by decide)
  have k2 := hk 2 (by decide)
  have k3 := hk 3 (by decide)
  rw [e0] at k0 ⊢
  rw [e1] at k1 ⊢
  rw [e2] at k2 ⊢
  rw [e3] at k3 ⊢
  rw [Nat.add_zero] at k0
  have q0 := heap_alloc_new w (.cells #[.int .u16 0, .int .u16 0, .int .u16 0, .int .u16 0] 38 (0, 0))
  have B0 := Lib.hid ((Below.refl w.heap.size w).alloc (Nat.le_refl _) (.cells #[.int .u16 0, .int .u16 0, .int .u16 0, .int .u16 0] 38))
  have Q0 := Lib.hid q0
  have s0 := keep_cell B0.out k0
  have s1 := keep_cell B0.out k1
  have s2 := keep_cell B0.out k2
  have s3 := keep_cell B0.out k3
  clear h hc hk k0 k1 k2 k3 e0 e1 e2 e3 q0
  go_enter Tryz.func30, Tryz.ntmps30
  go_wp2_with fail
  generalize w.alloc (.cells #[.int .u16 0, .int .u16 0, .int .u16 0, .int .u16 0] 38) = w1 at *
  have a0 := cell_regrown s0
  have a1 := cell_regrown s1
  have a2 := cell_regrown s2
  have a3 := cell_regrown s3
  have u0 : (0 : Int) < (n : Int) := by omega
  have u1 : (1 : Int) < (n : Int) := by omega
  have u2 : (2 : Int) < (n : Int) := by omega
  have u3 : (3 : Int) < (n : Int) := by omega
  refine wp_region_quiet_tail 13 (by kernel_rfl) (by kernel_rfl) ?_
  simp only [List.take_succ_cons, List.take_zero, List.drop_succ_cons, List.drop_zero]
  repeat (go_big_quiet_step (fail))
  refine wpQuiet_nil ?_
  intro _ hw'
  obtain ⟨⟨dq, osq⟩, hw''⟩ := hw'
  subst hw''
  have hb := below_regrown w1 dq osq
  clear a0 a1 a2 a3
  generalize grow (redrawn w1 dq) osq = w4 at *
  have R4 := Lib.hid ((hb.block _ (block_lt Q0.out)).trans Q0.out)
  have HB4 := Lib.hid (B0.out.trans (hb.mono B0.out.size))
  clear hb
  refine wpList_store_row rfl 38 _ _ rfl w.heap.size #[.int .u16 x0, .int .u16 x1, .int .u16 x2, .int .u16 x3] rfl rfl 38 _ R4.out (colSize4 _ _ _ _) rfl (colOne _ _ _ _) ?_
  go_wp2_with fail
  exact bodyPost_ret (results_cell_row (p := 2) (ty := 38) rfl _ _ w.heap.size 38 _ (0, 0) _ rfl (setRow_heap _ _ _ _ _ _ R4.out) Tryz.underlying38 rfl (colSize4 _ _ _ _)) rfl ⟨rfl, below_setRow HB4.out (Nat.le_refl _) _⟩
end Go.Proofs.YtioeifbobhdccaaGreatDoor
