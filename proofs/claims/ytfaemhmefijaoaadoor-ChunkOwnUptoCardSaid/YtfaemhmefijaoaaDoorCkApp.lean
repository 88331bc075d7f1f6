/- Appending to bytes of one's own; chunks that are handed in. -/
import Derived.Test.YtfaemhmefijaoaaDoorCkSplit
import Derived.Lib.AppendStr
import Derived.Laws.OwnMore
import Derived.Deep.RegionHeld3
namespace Go.Proofs.YtfaemhmefijaoaaDoor
open Go.RowKit Go.Sort Go.Shelf

/-- the bytes of a string -/
def ck.bytesOf (s : ByteArray) : List Int := s.data.toList.map fun b => (b.toNat : Int)
theorem ck.bytesOf_length (s : ByteArray) : (ck.bytesOf s).length = s.size := by simp [ck.bytesOf]
theorem ck.bytesOf_bytes (s : ByteArray) : sm.Bytes (ck.bytesOf s) := by
  intro x hx
  obtain ⟨b, _, rfl⟩ := List.mem_map.1 hx
  have := b.toNat_lt
  omega
theorem ck.bytesOf_wf (s : ByteArray) : ∀ x ∈ ck.bytesOf s, (Lit.int .u8 x).wf = true := by
  intro x hx
  have := ck.bytesOf_bytes s x hx
  simp [Lit.wf, IntKind.min, IntKind.max, IntKind.bits, IntKind.signed]
  omega
theorem wf_of_bytes {l : List Int} (h : sm.Bytes l) : ∀ x ∈ l, (Lit.int .u8 x).wf = true := by
  intro x hx
  have := h x hx
  simp [Lit.wf, IntKind.min, IntKind.max, IntKind.bits, IntKind.signed]
  omega
theorem ck.strOf_bytesOf (s : ByteArray) : strOfNums (ck.bytesOf s) = s := by
  cases s with
  | mk d =>
    simp only [strOfNums, ck.bytesOf, List.map_map]
    congr 1
    have : (fun n : Int => UInt8.ofNat n.toNat) ∘ (fun b : UInt8 => (b.toNat : Int)) = id := by
      funext b
      simp
    rw [this]
    simp
theorem ck.bytesOf_strOf {l : List Int} (h : sm.Bytes l) : ck.bytesOf (strOfNums l) = l := by
  simp only [strOfNums, ck.bytesOf, List.map_map]
  conv => rhs; rw [← List.map_id l]
  refine List.map_congr_left fun x hx => ?_
  have := h x hx
  simp only [Function.comp, UInt8.toNat_ofNat', id]
  omega
theorem ck.strCells_eq (s : ByteArray) : Lib.strCells s = (ck.bytesOf s).map (Value.int .u8) := by simp [Lib.strCells, ck.bytesOf]

/-- bytes of any slice, to a row of one's own -/
def AppOut (base n : Nat) (xs : List Int) (w : World) (row : Option Nat) (v' : Value) (w' : World) : Prop :=
  w'.ownsRow base 5 1 v' n (xs.map (Value.int .u8)) ∧ w.grownBy w' row
theorem run_append_sl (w : World) (ty : TypeId) (base : Nat) (v : Value) (n : Nat) (xs : List Int) (hown : w.ownsRow base 5 1 v n (xs.map (Value.int .u8))) (p : Option Addr) (m c : Nat) (d : List Int) (hs : Sl .u8 w p m c d)
    (hb : n + m ≤ 140737488355328) (hbase : base ≤ w.heap.size) :
    ∃ v' w', (Builtin.append_ #[22, 22] ty #[v, .slice p m c]).run Tryd.prog w = .ok v' w' ∧ AppOut base (n + m) (xs ++ d) w v.ownBlock v' w' := by
  obtain ⟨i0, hi, hz0, hz1, hz2⟩ := info_parts infoByte
  cases p with
  | none =>
    have hc := hs.bare rfl
    have hf := hs.fits
    obtain rfl : c = 0 := hc
    obtain rfl : m = 0 := by omega
    obtain rfl : d = [] := List.eq_nil_of_length_eq_zero hs.len
    exact ⟨v, w, run_append_owned_none (P := Tryd.prog) w base 22 ty 5 i0 1 Tryd.underlying22 hi v n _ hown, by rw [List.append_nil]; exact hown, ⟨rfl, rfl, rfl, Nat.le_refl _, fun _ _ _ => rfl⟩⟩
  | some ad =>
    obtain ⟨v', w', h1, h2, h3, _⟩ := run_append_own (P := Tryd.prog) w base 22 ty 5 i0 (.int .u8 0) 1 1 Tryd.underlying22 hi hz0 hz1 hz2 rfl (by decide) v n _ hown ad m c (d.map (Value.int .u8)) (by rw [List.length_map, hs.len, Nat.mul_one]) hs.at_news (ints_oneCell _ _) (by unfold maxLen; omega) (by omega) hbase
    exact ⟨v', w', h1, by rw [List.map_append]; exact h2, h3⟩
theorem run_append_str (w : World) (ty : TypeId) (base : Nat) (v : Value) (n : Nat) (xs : List Int) (hown : w.ownsRow base 5 1 v n (xs.map (Value.int .u8))) (s : ByteArray)
    (hb : n + s.size ≤ 140737488355328) (hbase : base ≤ w.heap.size) :
    ∃ v' w', (Builtin.append_ #[22, 9] ty #[v, .string s]).run Tryd.prog w = .ok v' w' ∧ AppOut base (n + s.size) (xs ++ ck.bytesOf s) w v.ownBlock v' w' := by
  obtain ⟨i0, hi, hz0, hz1, hz2⟩ := info_parts infoByte
  obtain ⟨v', w', h1, h2, h3, _⟩ := Lib.run_append_own_string (P := Tryd.prog) w base 22 9 ty 5 i0 Tryd.underlying22 Tryd.underlying9 hi hz0 hz1 hz2 v n _ hown s (by unfold maxLen; omega) hb hbase
  exact ⟨v', w', h1, by rw [List.map_append, ← ck.strCells_eq]; exact h2, h3⟩

section
variable {P : Program} {w : World} {ops : Array Oper} {rest : List Oper} {o : Oper} {a : Act} {Q : Exit → Act → World → Prop} {K : Act → World → Prop}
theorem wp_of_append {Φ : Value → World → Prop} (s x : Operand) (t u : TypeId) (ho : o.op = .call { callee := .builtin .append, args := #[s, x], argTypes := #[t, u] })
    (hr : ∃ v' w', (Builtin.append_ #[t, u] o.type #[a.eval s, a.eval x]).run P w = .ok v' w' ∧ Φ v' w') (h : ∀ v' w', Φ v' w' → K (a.put o.dst v') w') : o.wp P a w K Q := by
  obtain ⟨v', w', h1, h2⟩ := hr
  unfold Oper.wp execOp
  simp only [ho, resolve, invoke, builtin, Sem.run_bind, Sem.run_pure, Result.andThen_ok, List.map_toArray, List.map_cons, List.map_nil, h1]
  exact h _ _ h2
theorem wpList_of_append {Φ : Value → World → Prop} (hgd : o.guard = none) (s x : Operand) (t u : TypeId) (ho : o.op = .call { callee := .builtin .append, args := #[s, x], argTypes := #[t, u] })
    (hr : ∃ v' w', (Builtin.append_ #[t, u] o.type #[a.eval s, a.eval x]).run P w = .ok v' w' ∧ Φ v' w') (h : ∀ v' w', Φ v' w' → wpList P ops Q rest (a.put o.dst v') w') : wpList P ops Q (o :: rest) a w :=
  wpList_plain hgd fun _ hK => wp_of_append s x t u ho hr fun v' w' hp => hK _ _ (h v' w' hp)
theorem step_of_append {E : Prop} {Φ : Value → World → Prop} (hgd : o.guard = none) (s x : Operand) (t u : TypeId) (ho : o.op = .call { callee := .builtin .append, args := #[s, x], argTypes := #[t, u] })
    (hr : ∃ v' w', (Builtin.append_ #[t, u] o.type #[a.eval s, a.eval x]).run P w = .ok v' w' ∧ Φ v' w') (h : ∀ v' w', Φ v' w' → K (a.put o.dst v') w') :
    if Region.wanted o (yielded ops a.tmps) = true then Oper.wp P o a w K Q else E := by
  rw [if_pos (by simp [Region.wanted, hgd])]
  exact wp_of_append s x t u ho hr h
end

/-- a chunk that is handed in -/
structure ck.Arg where
  s : ByteArray
  p : Option Addr
  n : Nat
  cap : Nat
  d : List Int
def ck.Arg.ck (x : ck.Arg) : ck.Ck := (ck.bytesOf x.s, x.d)
/-- A SLICE OF CHUNKS THAT CAN BE READ -/
structure ck.Rd (w : World) (p : Option Addr) (n cap : Nat) (ls : List ck.Arg) : Prop where
  len : ls.length = n
  fits : n ≤ cap
  most : cap ≤ maxLen
  bare : p = Option.none → cap = 0
  cells : ls = [] ∨ ∃ b off, p = some ⟨b, off, Option.none⟩ ∧ ∀ i x, ls[i]? = some x → w.cell? ⟨b, off + i * 2, Option.none⟩ = some (.string x.s) ∧ w.cell? ⟨b, off + i * 2 + 1, Option.none⟩ = some (.slice x.p x.n x.cap)
  data : ∀ x ∈ ls, Sl .u8 w x.p x.n x.cap x.d
  names : ∀ x ∈ ls, x.s.size ≤ maxLen
theorem ck.Rd.below {w w' : World} {p : Option Addr} {n cap : Nat} {ls : List ck.Arg} (h : ck.Rd w p n cap ls) (hb : Below w.heap.size w w') : ck.Rd w' p n cap ls := by
  refine ⟨h.len, h.fits, h.most, h.bare, ?_, fun x hx => (h.data x hx).below hb, h.names⟩
  rcases h.cells with h0 | ⟨b, off, rfl, hc⟩
  · exact .inl h0
  · exact .inr ⟨b, off, rfl, fun i x hx => ⟨keep_cell hb (hc i x hx).1, keep_cell hb (hc i x hx).2⟩⟩
/-- the chunk i of them -/
theorem ck.Rd.at {w : World} {p : Option Addr} {n cap : Nat} {ls : List ck.Arg} (h : ck.Rd w p n cap ls) {i : Nat} (hi : i < n) : ∃ b off x, p = some ⟨b, off, Option.none⟩ ∧ ls[i]? = some x ∧ w.cell? ⟨b, off + i * 2, Option.none⟩ = some (.string x.s) ∧ w.cell? ⟨b, off + i * 2 + 1, Option.none⟩ = some (.slice x.p x.n x.cap) ∧ Sl .u8 w x.p x.n x.cap x.d := by
  have hl : i < ls.length := by rw [h.len]; exact hi
  rcases h.cells with h0 | ⟨b, off, rfl, hc⟩
  · rw [h0] at hl; cases hl
  · have hx : ls[i]? = some ls[i] := List.getElem?_eq_getElem hl
    exact ⟨b, off, ls[i], rfl, hx, (hc i _ hx).1, (hc i _ hx).2, h.data _ (List.getElem_mem hl)⟩
end Go.Proofs.YtfaemhmefijaoaaDoor
