/- Texts of this claim, joined. -/
import Derived.Test.YthpckmcgbmfmcaaGreatDoorM1
import Derived.Laws.OwnMore
import Derived.Lib.FrozenHead
import Derived.Lib.OthersKept
import Derived.BigQuiet
import Derived.ArgAppend
import Derived.RangeFuncNested
import Derived.RangeFuncBound
import Derived.RangeFuncLeaves
import Derived.OwnWalkIn
import Derived.LoopNIn
import Derived.LoopIn
import Derived.RangeFuncBox
set_option maxRecDepth 100000
set_option maxHeartbeats 12800000
namespace Go.Proofs.YthpckmcgbmfmcaaGreatDoor
open Go.RowKit Go.Sort Go.Shelf
theorem infoByte : (Tryz.prog.info? 5).map (fun i => (i.zero, i.size, i.bytes)) = some (some (.int .u8 0), 1, 1) := by kernel_rfl
def sm.Bytes (l : List Int) : Prop := ∀ x ∈ l, 0 <= x /\ x < 256
theorem sm.Bytes.take {a : List Int} (ha : sm.Bytes a) (n : Nat) : sm.Bytes (a.take n) := fun x hx => ha x (List.mem_of_mem_take hx)
theorem sm.Bytes.drop {a : List Int} (ha : sm.Bytes a) (n : Nat) : sm.Bytes (a.drop n) := fun x hx => ha x (List.mem_of_mem_drop hx)
theorem wf_of_bytes {l : List Int} (h : sm.Bytes l) : ∀ x ∈ l, (Lit.int .u8 x).wf = true := by
 intro x hx;have := h x hx;simp [Lit.wf, IntKind.min, IntKind.max, IntKind.bits, IntKind.signed];omega
theorem Sl.take {k : IntKind} {w : World} {a : Option Addr} {n cap m : Nat} {l : List Int} (h : Sl k w a n cap l) (hm : m <= n) : Sl k w a m cap (l.take m) :=
 ⟨by rw [List.length_take, h.len]; omega, Nat.le_trans hm h.fits, h.most, h.bare, fun x hx => h.wf x (List.mem_of_mem_take hx), h.rd.take m⟩
theorem Sl.drop {k : IntKind} {w : World} {b off n cap m : Nat} {l : List Int} (h : Sl k w (some ⟨b, off, none⟩) n cap l) (hm : m <= n) : Sl k w (some ⟨b, off + m, none⟩) (n - m) (cap - m) (l.drop m) :=
 ⟨by rw [List.length_drop, h.len], by have := h.fits; omega, Nat.le_trans (Nat.sub_le _ _) h.most, (fun e => by cases e), fun x hx => h.wf x (List.mem_of_mem_drop hx), h.rd.drop m⟩
theorem Sl.bytes {w : World} {a : Option Addr} {n cap : Nat} {l : List Int} (h : Sl .u8 w a n cap l) : sm.Bytes l := by
 intro x hx;have := h.wf x hx;simp [Lit.wf, IntKind.min, IntKind.max, IntKind.bits, IntKind.signed] at this;omega
theorem byte_getD {l : List Int} (h : sm.Bytes l) (x : Nat) : 0 <= l.getD x 0 /\ l.getD x 0 < 256 := by
 rw [List.getD_eq_getElem?_getD];rcases Nat.lt_or_ge x l.length with hx | hx
 ·rw [List.getElem?_eq_getElem hx]
  exact h _ (List.getElem_mem hx)
 ·rw [List.getElem?_eq_none hx]
  exact ⟨by decide, by decide⟩
theorem sl_bytes (w : World) (l : List Int) (t : TypeId) (fr : Nat × Nat) (g : Nat) (hg : w.heap.size = g) (hm : l.length <= maxLen) (hw : ∀ x ∈ l, (Lit.int .u8 x).wf = true) : Sl .u8 (w.alloc (.cells (l.map (Value.int .u8)).toArray t fr)) (some ⟨g, 0, none⟩) l.length l.length l := by
 subst hg;refine ⟨rfl, Nat.le_refl _, hm, (fun h => by cases h), hw, .inr ⟨_, _, rfl, fun i hi => ?_⟩⟩;rw [Nat.zero_add, cell_of_row _ _ _ _ _ _ (heap_alloc_new w _)];simp [List.getD_eq_getElem?_getD, List.getElem?_eq_getElem hi]
theorem own_not_loop {w : World} {base m size l : Nat} {e : TypeId} {xs : List Value} {v : Value} {o : Obj} (h : w.ownsRow base e size v m xs) (hl : w.heap[l]? = some o) (ho : o.isCells = false) : some l ≠ v.ownBlock := by
 rcases h.2 with ⟨rfl, _⟩ | ⟨g, cap, cur, rfl, _, hg, _⟩
 ·simp [Value.ownBlock]
 ·intro e'
  have : l = g := by simpa [Value.ownBlock] using e'
  subst this;rw [hl] at hg;cases hg;cases ho
def AppOut (base n : Nat) (xs : List Int) (w : World) (row : Option Nat) (v' : Value) (w' : World) : Prop :=
 w'.ownsRow base 5 1 v' n (xs.map (Value.int .u8)) /\ w.grownBy w' row
theorem run_append_sl (w : World) (ty : TypeId) (base : Nat) (v : Value) (n : Nat) (xs : List Int) (hown : w.ownsRow base 5 1 v n (xs.map (Value.int .u8))) (p : Option Addr) (m c : Nat) (d : List Int) (hs : Sl .u8 w p m c d)
  (hb : n + m <= 140737488355328) (hbase : base <= w.heap.size) :
  ∃ v' w', (Builtin.append_ #[22, 22] ty #[v, .slice p m c]).run Tryz.prog w = .ok v' w' /\ AppOut base (n + m) (xs ++ d) w v.ownBlock v' w' := by
 obtain ⟨i0, hi, hz0, hz1, hz2⟩ := info_parts infoByte;cases p with
 | none =>
  have hc := hs.bare rfl;have hf := hs.fits;obtain rfl : c = 0 := hc;obtain rfl : m = 0 := by omega
  obtain rfl : d = [] := List.eq_nil_of_length_eq_zero hs.len;exact ⟨v, w, run_append_owned_none (P := Tryz.prog) w base 22 ty 5 i0 1 Tryz.underlying22 hi v n _ hown, by rw [List.append_nil]; exact hown, ⟨rfl, rfl, rfl, Nat.le_refl _, fun _ _ _ => rfl⟩⟩
 | some ad =>
  obtain ⟨v', w', h1, h2, h3, _⟩ := run_append_own (P := Tryz.prog) w base 22 ty 5 i0 (.int .u8 0) 1 1 Tryz.underlying22 hi hz0 hz1 hz2 rfl (by decide) v n _ hown ad m c (d.map (Value.int .u8)) (by rw [List.length_map, hs.len, Nat.mul_one]) hs.at_news (ints_oneCell _ _) (by unfold maxLen; omega) (by omega) hbase;exact ⟨v', w', h1, by rw [List.map_append]; exact h2, h3⟩
theorem Sl.grown {k : IntKind} {w w' : World} {g n c : Nat} {l : List Int} {row : Option Nat} (h : Sl k w (some ⟨g, 0, none⟩) n c l) (hg : w.grownBy w' row) (hne : some g ≠ row) : Sl k w' (some ⟨g, 0, none⟩) n c l := by
 refine ⟨h.len, h.fits, h.most, h.bare, h.wf, ?_⟩;rcases h.rd with h0 | ⟨b, off, e, hc⟩
 ·exact .inl h0
 ·simp only [Option.some.injEq, Addr.mk.injEq, and_true] at e
  obtain ⟨rfl, rfl⟩ := e;exact .inr ⟨g, 0, rfl, fun i hi => (World.cell?_of_block (hg.block g (block_lt_of_cell (hc i hi)) hne)).trans (hc i hi)⟩
theorem run_append_sl_at (w : World) (ty : TypeId) (base : Nat) (v : Value) (n : Nat) (xs : List Int) (hown : w.ownsRow base 5 1 v n (xs.map (Value.int .u8))) (ad : Addr) (m c : Nat) (d : List Int) (hs : Sl .u8 w (some ad) m c d)
  (hb : n + m <= 140737488355328) (hbase : base <= w.heap.size) :
  ∃ v' w', (Builtin.append_ #[22, 22] ty #[v, .slice (some ad) m c]).run Tryz.prog w = .ok v' w' /\ (AppOut base (n + m) (xs ++ d) w v.ownBlock v' w' /\ (v'.ownBlock = v.ownBlock \/ v'.ownBlock = some w.heap.size)) := by
 obtain ⟨i0, hi, hz0, hz1, hz2⟩ := info_parts infoByte;obtain ⟨v', w', h1, h2, h3, _, h5⟩ := run_append_own_at (P := Tryz.prog) w base 22 ty 5 i0 (.int .u8 0) 1 1 Tryz.underlying22 hi hz0 hz1 hz2 rfl (by decide) v n _ hown ad m c (d.map (Value.int .u8)) (by rw [List.length_map, hs.len, Nat.mul_one]) hs.at_news (ints_oneCell _ _) (by unfold maxLen; omega) (by omega) hbase;exact ⟨v', w', h1, ⟨by rw [List.map_append]; exact h2, h3⟩, h5⟩
section
variable {P : Program} {w : World} {ops : Array Oper} {rest : List Oper} {o : Oper} {a : Act} {Q : Exit -> Act -> World -> Prop} {K : Act -> World -> Prop}
theorem wp_of_append {Φ : Value -> World -> Prop} (s x : Operand) (t u : TypeId) (ho : o.op = .call { callee := .builtin .append, args := #[s, x], argTypes := #[t, u] })
  (hr : ∃ v' w', (Builtin.append_ #[t, u] o.type #[a.eval s, a.eval x]).run P w = .ok v' w' /\ Φ v' w') (h : ∀ v' w', Φ v' w' -> K (a.put o.dst v') w') : o.wp P a w K Q := by
 obtain ⟨v', w', h1, h2⟩ := hr;unfold Oper.wp execOp;simp only [ho, resolve, invoke, builtin, Sem.run_bind, Sem.run_pure, Result.andThen_ok, List.map_toArray, List.map_cons, List.map_nil, h1];exact h _ _ h2
theorem wpList_of_append {Φ : Value -> World -> Prop} (hgd : o.guard = none) (s x : Operand) (t u : TypeId) (ho : o.op = .call { callee := .builtin .append, args := #[s, x], argTypes := #[t, u] })
  (hr : ∃ v' w', (Builtin.append_ #[t, u] o.type #[a.eval s, a.eval x]).run P w = .ok v' w' /\ Φ v' w') (h : ∀ v' w', Φ v' w' -> wpList P ops Q rest (a.put o.dst v') w') : wpList P ops Q (o :: rest) a w :=
 wpList_plain hgd fun _ hK => wp_of_append s x t u ho hr fun v' w' hp => hK _ _ (h v' w' hp)
theorem step_of_append {E : Prop} {Φ : Value -> World -> Prop} (hgd : o.guard = none) (s x : Operand) (t u : TypeId) (ho : o.op = .call { callee := .builtin .append, args := #[s, x], argTypes := #[t, u] })
  (hr : ∃ v' w', (Builtin.append_ #[t, u] o.type #[a.eval s, a.eval x]).run P w = .ok v' w' /\ Φ v' w') (h : ∀ v' w', Φ v' w' -> K (a.put o.dst v') w') :
  if Region.wanted o (yielded ops a.tmps) = true then Oper.wp P o a w K Q else E := by
 rw [if_pos (by simp [Region.wanted, hgd])];exact wp_of_append s x t u ho hr h
end
theorem own_form {w : World} {base : Nat} {e : TypeId} {size : Nat} {v : Value} {n : Nat} {xs : List Value} (h : w.ownsRow base e size v n xs) (hn : 0 < n) : ∃ g cap, v = .slice (some ⟨g, 0, none⟩) n cap /\ n <= cap := by
 rcases h.2 with ⟨_, h'⟩ | ⟨g, cap, cur, h', _, _, h1, _⟩
 ·omega
 ·exact ⟨g, cap, h', h1⟩
theorem own_slice' {w : World} {base : Nat} {e : TypeId} {size : Nat} {v : Value} {n : Nat} {xs : List Value} (h : w.ownsRow base e size v n xs) : ∃ a c, v = .slice a n c /\ n <= c /\ c <= maxLen /\ ((n = 0 /\ c = 0) \/ ∃ g, a = some ⟨g, 0, none⟩ /\ ∀ i x, xs[i]? = some x -> w.cell? ⟨g, i, none⟩ = some x) := by
 rcases h.2 with ⟨rfl, rfl⟩ | ⟨g, cap, cur, rfl, h1, h2, h3, h4, h5, h6⟩
 ·exact ⟨none, 0, rfl, Nat.le_refl _, Nat.zero_le _, .inl ⟨rfl, rfl⟩⟩
 ·refine ⟨_, cap, rfl, h3, h4, .inr ⟨g, rfl, fun i x hx => ?_⟩⟩
  have hi : i < n * size := by
   rw [<- h.1];exact (List.getElem?_eq_some_iff.1 hx).1
  rw [cell_of_row _ _ _ _ _ _ h2];rw [<- h6, List.getElem?_take, if_pos hi] at hx
  simpa using hx
theorem own_cur {w : World} {base g n c k : Nat} {l : List Int} (h : w.ownsRow base 5 1 (.slice (some ⟨g, 0, none⟩) n c) n (l.map (Value.int .u8))) (hk : k < n) :
  ∃ cur, w.heap[g]? = some (.cells cur 5 (0, 0)) /\ cur[k]? = some (.int .u8 (l.getD k 0)) /\ n <= cur.size /\ cur.toList.take n = l.map (Value.int .u8) := by
 rcases h.2 with ⟨h', _⟩ | ⟨g', cap, cur, h', h1, h2, h3, h4, h5, h6⟩
 ·cases h'
 ·simp only [Value.slice.injEq, Option.some.injEq, Addr.mk.injEq, and_true, true_and] at h'
  obtain ⟨rfl, rfl⟩ := h';refine ⟨cur, h2, ?_, by omega, by simpa using h6⟩;have e := congrArg (fun l : List Value => l[k]?) h6;simp only [Nat.mul_one] at e;rw [List.getElem?_take, if_pos hk, List.getElem?_map] at e;have hl : k < l.length := by
   have := h.1;simp at this;omega
  rw [List.getElem?_eq_getElem hl] at e;rw [<- Array.getElem?_toList, e];simp [List.getD_eq_getElem?_getD, hl]
theorem own_put {w : World} {base g n c k : Nat} {l : List Int} (y : Int) (h : w.ownsRow base 5 1 (.slice (some ⟨g, 0, none⟩) n c) n (l.map (Value.int .u8))) (_hk : k < n) :
  (w.setCell ⟨g, k, none⟩ (.int .u8 y)).ownsRow base 5 1 (.slice (some ⟨g, 0, none⟩) n c) n ((l.set k y).map (Value.int .u8)) := by
 rcases h.2 with ⟨h', _⟩ | ⟨g', cap, cur, h', h1, h2, h3, h4, h5, h6⟩
 ·cases h'
 ·simp only [Value.slice.injEq, Option.some.injEq, Addr.mk.injEq, and_true, true_and] at h'
  obtain ⟨rfl, rfl⟩ := h';have hl : l.length = n := by
   have := h.1
   simpa using this
  refine ⟨by rw [List.length_map, List.length_set, hl, Nat.mul_one], .inr ⟨g, c, cur.setIfInBounds k (.int .u8 y), rfl, h1, ?_, h3, h4, by rw [Array.size_setIfInBounds]; exact h5, ?_⟩⟩
  ·rw [setCell_eq_setRow w g k cur 5 (0, 0) _ h2]
   exact setRow_heap w g cur _ _ _ h2
  ·rw [Array.toList_setIfInBounds, List.take_set, h6, List.map_set]
end Go.Proofs.YthpckmcgbmfmcaaGreatDoor
namespace Go.Proofs.YthpckmcgbmfmcaaGreatDoor
open Go.RowKit Go.Sort
def OwnS (base : Nat) (w : World) (v : Value) (l : List Int) : Prop :=
 (v = .slice none 0 0 /\ l = []) \/ ∃ g o cap cur, v = .slice (some ⟨g, o, none⟩) l.length cap /\ base <= g /\ w.heap[g]? = some (.cells cur 5 (0, 0)) /\ l.length <= cap /\ cap <= maxLen /\ o + cap <= cur.size /\ ∀ j, j < l.length -> cur[o + j]? = some (.int .u8 (l.getD j 0))
theorem OwnS.nil (base : Nat) (w : World) : OwnS base w (.slice none 0 0) [] := .inl ⟨rfl, rfl⟩
theorem OwnS.kept {base : Nat} {w w' : World} {v : Value} {l : List Int} {row : Option Nat} (h : OwnS base w v l) (hg : w.grownBy w' row) (hne : v.ownBlock = none \/ v.ownBlock ≠ row) : OwnS base w' v l := by
 rcases h with h | ⟨g, o, cap, cur, rfl, h1, h2, h3⟩
 ·exact .inl h
 ·refine .inr ⟨g, o, cap, cur, rfl, h1, grown_block hg h2 ?_, h3⟩
  rcases hne with hne | hne
  ·cases hne
  ·exact hne
theorem OwnS.below {base : Nat} {w w' : World} {v : Value} {l : List Int} (h : OwnS base w v l) (hb : Below w.heap.size w w') : OwnS base w' v l :=
 h.kept (grown_of_below hb) (by cases hv : v.ownBlock <;> simp)
theorem OwnS.lt {base : Nat} {w : World} {v : Value} {l : List Int} (h : OwnS base w v l) : ∀ k, v.ownBlock = some k -> base <= k /\ k < w.heap.size := by
 intro k hk;rcases h with ⟨rfl, _⟩ | ⟨g, o, cap, cur, rfl, h1, h2, _⟩
 ·cases hk
 ·cases hk
  exact ⟨h1, block_lt h2⟩
theorem OwnS.block {base : Nat} {w : World} {v : Value} {l : List Int} (h : OwnS base w v l) : ∀ k, v.ownBlock = some k -> ∃ cur, w.heap[k]? = some (.cells cur 5 (0, 0)) := by
 intro k hk;rcases h with ⟨rfl, _⟩ | ⟨g, o, cap, cur, rfl, h1, h2, _⟩
 ·cases hk
 ·cases hk
  exact ⟨_, h2⟩
theorem OwnS.ne {base : Nat} {w : World} {v : Value} {l : List Int} (h : OwnS base w v l) {b : Nat} {cs : Array Value} {t : TypeId} {z : Nat × Nat} (hb : w.heap[b]? = some (.cells cs t z)) (ht : t ≠ 5) : v.ownBlock ≠ some b := by
 intro e;obtain ⟨cur, hc⟩ := h.block b e;rw [hb] at hc;cases hc;exact ht rfl
theorem OwnS.of_own {base : Nat} {w : World} {v : Value} {l : List Int} (h : w.ownsRow base 5 1 v l.length (l.map (Value.int .u8))) : OwnS base w v l := by
 rcases h.2 with ⟨rfl, h0⟩ | ⟨g, cap, cur, rfl, h1, h2, h3, h4, h5, h6⟩
 ·exact .inl ⟨rfl, List.eq_nil_of_length_eq_zero h0⟩
 ·refine .inr ⟨g, 0, cap, cur, rfl, h1, h2, h3, h4, by omega, fun j hj => ?_⟩
  obtain ⟨cur', e1, e2, _⟩ := own_cur (k := j) h hj;rw [h2] at e1;cases e1;rw [Nat.zero_add];exact e2
theorem OwnS.form {base : Nat} {w : World} {v : Value} {l : List Int} (h : OwnS base w v l) : ∃ a cap, v = .slice a l.length cap /\ l.length <= cap /\ cap <= maxLen := by
 rcases h with ⟨rfl, rfl⟩ | ⟨g, o, cap, cur, rfl, h1, h2, h3, h4, _⟩
 ·exact ⟨none, 0, rfl, Nat.le_refl _, Nat.zero_le _⟩
 ·exact ⟨_, cap, rfl, h3, h4⟩
theorem OwnS.sl {base : Nat} {w : World} {a : Option Addr} {n cap : Nat} {l : List Int} (h : OwnS base w (.slice a n cap) l) (hb : sm.Bytes l) : Sl .u8 w a n cap l := by
 rcases h with ⟨e, rfl⟩ | ⟨g, o, cap', cur, e, h1, h2, h3, h4, h5, h6⟩
 ·cases e
  exact ⟨rfl, Nat.le_refl _, Nat.zero_le _, fun _ => rfl, (fun x hx => by cases hx), .inl rfl⟩
 ·cases e
  refine ⟨rfl, h3, h4, (fun e => by cases e), wf_of_bytes hb, .inr ⟨g, o, rfl, fun i hi => ?_⟩⟩;rw [cell_of_row _ _ _ _ _ _ h2];exact h6 i hi
theorem OwnS.drop {base : Nat} {w : World} {g o cap k : Nat} {l : List Int} (h : OwnS base w (.slice (some ⟨g, o, none⟩) l.length cap) l) (hk : k <= l.length) : OwnS base w (.slice (some ⟨g, o + k, none⟩) (l.length - k) (cap - k)) (l.drop k) := by
 rcases h with ⟨e, rfl⟩ | ⟨g', o', cap', cur, e, h1, h2, h3, h4, h5, h6⟩
 ·cases e
 ·cases e
  refine .inr ⟨g, o + k, cap - k, cur, by rw [List.length_drop], h1, h2, by rw [List.length_drop]; omega, by omega, by omega, fun j hj => ?_⟩;rw [List.length_drop] at hj;rw [Nat.add_assoc, h6 (k + j) (by omega)];simp [List.getD_eq_getElem?_getD]
theorem OwnS.empty {base : Nat} {w : World} {g o cap n : Nat} {l : List Int} (h : OwnS base w (.slice (some ⟨g, o, none⟩) n cap) l) (o' : Nat) (ho : o' <= o + cap) : OwnS base w (.slice (some ⟨g, o', none⟩) 0 0) [] := by
 rcases h with ⟨e, rfl⟩ | ⟨g', oo, cap', cur, e, h1, h2, h3, h4, h5, h6⟩
 ·cases e
 ·cases e
  exact .inr ⟨g, o', 0, cur, rfl, h1, h2, Nat.le_refl _, Nat.zero_le _, by omega, fun j hj => absurd hj (Nat.not_lt_zero _)⟩
def AppS (base : Nat) (l : List Int) (w : World) (v v' : Value) (w' : World) : Prop :=
 OwnS base w' v' l /\ w.grownBy w' v.ownBlock /\ (v'.ownBlock = v.ownBlock \/ ∃ k, v'.ownBlock = some k /\ w.heap.size <= k)
theorem run_append_S (w : World) (ty : TypeId) (base : Nat) (v : Value) (l : List Int) (hown : OwnS base w v l) (g : Nat) (x : Int) (hx : w.cell? ⟨g, 0, none⟩ = some (.int .u8 x)) (hb : l.length < 140737488355328) (hbase : base <= w.heap.size) :
  ∃ v' w', (Builtin.append_ #[22, 22] ty #[v, .slice (some ⟨g, 0, none⟩) 1 1]).run Tryz.prog w = .ok v' w' /\ AppS base (l ++ [x]) w v v' w' := by
 obtain ⟨i0, hi, hz0, hz1, hz2⟩ := info_parts infoByte;have hnews : ∀ j u, [Value.int .u8 x][j]? = some u -> w.cell? ((⟨g, 0, none⟩ : Addr).add j) = some u := by
  intro j u hj
  match j, hj with
  | 0, hj =>
   simp at hj;subst hj
   simpa [Addr.add] using hx
 rcases hown with ⟨rfl, rfl⟩ | ⟨b, o, cap, cur, rfl, h1, h2, h3, h4, h5, h6⟩
 ·obtain ⟨v', w', r1, r2, r3, _, r5⟩ := run_append_own_at (P := Tryz.prog) w base 22 ty 5 i0 (.int .u8 0) 1 1 Tryz.underlying22 hi hz0 hz1 hz2 rfl (by decide) (.slice none 0 0) 0 [] (World.ownsRow_nil _ _ _ _) ⟨g, 0, none⟩ 1 1 [.int .u8 x] rfl hnews (ints_oneCell .u8 [x]) (by unfold maxLen; omega) (by omega) hbase
  refine ⟨v', w', r1, OwnS.of_own (l := [x]) r2, r3, ?_⟩;rcases r5 with r5 | r5
  ·exact .inl r5
  ·exact .inr ⟨_, r5, Nat.le_refl _⟩
 ·by_cases hroom : l.length + 1 <= cap
  ·have hr := run_append_room_cells (P := Tryz.prog) w 22 ty 5 i0 Tryz.underlying22 hi b o l.length cap ⟨g, 0, none⟩ 1 1 [.int .u8 x] (by rw [hz1]; rfl) hnews (ints_oneCell .u8 [x]) hroom
    (by
     intro j hj;have hj0 : j = 0 := (by simpa using hj);subst hj0;rw [cell_of_row _ _ _ _ _ _ h2, hz1];simp;omega)
    (by
     intro j hj;exact frozen_of_row w b _ _ _ h2)
   rw [hz1] at hr;refine ⟨_, _, hr, ?_, ?_, .inl rfl⟩
   ·refine .inr ⟨b, o, cap, _, by rw [List.length_append]; rfl, h1, heap_setCell_same w b (o + l.length * 1 + 0) _ _ (.int .u8 x) h2, by rw [List.length_append]; exact hroom, h4, by simpa using h5, fun j hj => ?_⟩
    rw [List.length_append] at hj;simp only [List.length_cons, List.length_nil] at hj;rcases Nat.lt_or_ge j l.length with hlt | hge
    ·have e : (l ++ [x]).getD j 0 = l.getD j 0 := by
      simp [List.getD_eq_getElem?_getD, List.getElem?_append_left hlt]
     rw [e, <- h6 j hlt];simp only [Nat.mul_one, Nat.add_zero];rw [Array.getElem?_setIfInBounds, if_neg (by omega)]
    ·obtain rfl : j = l.length := by omega
     have e : (l ++ [x]).getD l.length 0 = x := (by simp [List.getD_eq_getElem?_getD]);rw [e];simp only [Nat.mul_one, Nat.add_zero];rw [Array.getElem?_setIfInBounds, if_pos rfl, if_pos (by omega)]
   ·exact grownBy_setCell3 w b _ _
  ·obtain ⟨v', w', r1, r2, r3⟩ := run_append_arg_grows (P := Tryz.prog) w 22 ty 5 i0 (.int .u8 0) 1 1 Tryz.underlying22 hi hz0 hz1 hz2 rfl (by decide) ⟨b, o, none⟩ l.length cap (l.map (Value.int .u8)) (by simp) (by
     intro j u hj;rw [Addr.add_lit, cell_of_row _ _ _ _ _ _ h2];have hjl : j < l.length := by
      have := (List.getElem?_eq_some_iff.1 hj).1
      simpa using this
     rw [h6 j hjl];rw [List.getElem?_map, List.getElem?_eq_getElem hjl] at hj;simp at hj;rw [<- hj];simp [List.getD_eq_getElem?_getD, hjl]) ⟨g, 0, none⟩ 1 1 [.int .u8 x] rfl hnews (by omega) (by unfold maxLen; omega) (by omega)
   have hl : l.map (Value.int .u8) ++ [.int .u8 x] = (l ++ [x]).map (Value.int .u8) := (by simp);rw [hl, show l.length + 1 = (l ++ [x]).length by simp] at r2;obtain ⟨g', c', ev, _⟩ := own_form r2 (by simp);refine ⟨v', w', r1, OwnS.of_own (ownsRow_base r2 hbase), grown_any r3, .inr ⟨g', by rw [ev]; rfl, ?_⟩⟩;exact (World.ownsRow.lt r2 g' (by rw [ev]; rfl)).1
theorem Sl.dropC {k : IntKind} {w : World} {b off n cap m : Nat} {l : List Int} (h : Sl k w (some ⟨b, off, none⟩) n cap l) (hm : m = n) (o' : Nat) : Sl k w (some ⟨b, o', none⟩) 0 0 (l.drop m) := by
 have e : l.drop m = [] := by
  apply List.drop_eq_nil_of_le
  rw [h.len, hm];exact Nat.le_refl _
 rw [e];exact ⟨rfl, Nat.le_refl _, Nat.zero_le _, (fun e => by cases e), (fun x hx => by cases hx), .inr ⟨b, o', rfl, fun i hi => absurd hi (Nat.not_lt_zero _)⟩⟩
theorem Sl.keepU {k : IntKind} {w w' : World} {b off n cap n0 : Nat} {l : List Int} (h : Sl k w (some ⟨b, off, none⟩) n cap l) (hb : Below n0 w w') (hn : b < n0) : Sl k w' (some ⟨b, off, none⟩) n cap l := by
 refine ⟨h.len, h.fits, h.most, h.bare, h.wf, ?_⟩;rcases h.rd with h0 | ⟨b', off', e, hc⟩
 ·exact .inl h0
 ·simp only [Option.some.injEq, Addr.mk.injEq, and_true] at e
  obtain ⟨rfl, rfl⟩ := e;exact .inr ⟨b, off, rfl, fun i hi => (hb.cell (p := ⟨b, off + i, none⟩) hn).trans (hc i hi)⟩
def UnpP (d : List Int) (w : World) (e : Ending) (w' : World) : Prop :=
 ∃ v, e = .returned (.tuple #[v, .int .i64 0]) /\ w'.ownsRow w.heap.size 5 1 v d.length (d.map (Value.int .u8)) /\ Below w.heap.size w w'
theorem own_blk {w : World} {base n : Nat} {v : Value} {xs : List Value} (h : w.ownsRow base 5 1 v n xs) : ∀ k, v.ownBlock = some k -> base <= k := fun k hk => (World.ownsRow.lt h k hk).1
theorem pkUnpack_any (a : Option Addr) (n cap most : Nat) (e d : List Int) (w : World) (h : Sl .u8 w a n cap e) (ha : ∀ b o', a = some ⟨b, o', none⟩ -> b < w.heap.size) (hp : pk.Pk e d) (hd : d.length <= most) (hm : most <= 17179869184) :
  Calls Tryz.prog 13 #[.slice a n cap, .int .i64 (most : Nat)] w (UnpP d w) := by
 have HS := hd_ h;have HA := hd_ ha;have HP := hd_ hp;have HD := hd_ hd;have hlen := h.len;have hmx : max (most : Int) 0 = (most : Int) := by omega
 clear h ha hp hd;go_enter Tryz.func13, Tryz.ntmps13
 go_wp2_with fail
 clear hmx;go_loopg [0, 6] n (fun gk s0 s6 wr => ∃ (a' : Option Addr) (n' cap' : Nat) (e' d' o : List Int) (vo : Value), s0 = .slice a' n' cap' /\ s6 = vo /\ gk = n' /\ Sl .u8 wr a' n' cap' e' /\ pk.Pk e' d' /\ o ++ d' = d /\ wr.ownsRow w.heap.size 5 1 vo o.length (o.map (Value.int .u8)) /\ Below w.heap.size w wr /\ (∀ b o', a' = some ⟨b, o', none⟩ -> b < w.heap.size))
 case atStart => exact ⟨a, n, cap, e, d, [], _, rfl, rfl, rfl, HS.out, HP.out, rfl, World.ownsRow_nil _ _ _ _, Below.refl _ _, HA.out⟩
 case round =>
  obtain ⟨a', n', cap', e', d', o, vo, rfl, rfl, hgk, hs, hp, ho, hr, hb, ha⟩ := hrel;have Hg := hd_ hgk;have HPK := hd_ hp;have HO := hd_ ho;have HR := hd_ hr;have HB := hd_ hb;have HX := hd_ ha;have HSL := hd_ hs;have hlen' := hs.len;have hfit := hs.fits;clear hr hb ha hs hgk HS HP HA hlen;obtain ⟨ao, co, rfl, _, _, _⟩ := own_slice' HR.out;cases hp with
  | nil =>
   have h0 : n' = 0 := (by simpa using hlen'.symm);subst h0;have hod : o = d := (by rw [<- ho, List.append_nil]);have HOD := hd_ hod;clear ho hlen' hod;go_wp2_with fail
   go_ret2
   rw [HOD.out] at HR ⊢;exact ⟨_, rfl, HR.out, HB.out⟩
  | @lit e1 d1 c h1 h2 hp1 =>
   have HP1 := hd_ hp1;obtain ⟨m, hm1⟩ : ∃ m, c.length = m := ⟨_, rfl⟩;rw [hm1] at h1 h2 HSL hlen';have HMC := hd_ hm1;simp only [List.length_cons, List.length_append, hm1] at hlen';have hdl : o.length + (m + d1.length) = d.length := (by rw [<- HO.out]; simp only [List.length_append, hm1]);have HDL := hd_ hdl;have hdm := HD.out;obtain ⟨b, off, rfl, hc⟩ := HSL.out.cells (by omega);have hc0 : wr.cell? ⟨b, off, none⟩ = some (.int .u8 ((m - 1 : Nat) : Int)) := hc 0 (by omega);have hbw : b < w.heap.size := HX.out b off rfl;clear hc ho hp1 hm1;have s1 := HSL.out.drop (m := 1) (by omega);rw [show ((((m - 1 : Nat) : Int) :: (c ++ e1)).drop 1) = c ++ e1 from rfl] at s1;have s2 := s1.take (m := m) (by omega);rw [List.take_left' HMC.out] at s2;have HS2 := hd_ s2;have HS1 := hd_ s1;have HRUN := hd_ (run_append_sl wr 22 w.heap.size _ _ o HR.out (some ⟨b, off + 1, none⟩) m (cap' - 1) c HS2.out (by have := HDL.out; omega) HB.out.size);have hob := own_blk HR.out;have HOB := hd_ hob;obtain ⟨ol, hol⟩ : ∃ z, o.length = z := ⟨_, rfl⟩;rw [hol] at HR HRUN hdl hob HOB ⊢;have HOL := hd_ hol;obtain ⟨N, hN⟩ : ∃ z, n' - 1 = z := ⟨_, rfl⟩;obtain ⟨C, hC⟩ : ∃ z, cap' - 1 = z := ⟨_, rfl⟩;obtain ⟨off1, hoff⟩ : ∃ z, off + 1 = z := ⟨_, rfl⟩;obtain rfl : n' = N + 1 := (by omega);obtain rfl : cap' = C + 1 := (by omega);simp only [Nat.add_sub_cancel] at s1 s2 HS1 HS2 HRUN;have f0 : (0 : Int) < ((N + 1 : Nat) : Int) := (by omega);have f1 : ((m - 1 : Nat) : Int) < 128 := (by omega);have f2 : IntKind.i64.wrap (((m - 1 : Nat) : Int) + 1) = (m : Int) := i64o (by omega) (by omega);have f3 : ¬ ((m : Int) > (N : Int)) := (by omega);have f4 : IntKind.i64.wrap ((most : Int) - (ol : Int)) = ((most - ol : Nat) : Int) := i64o (by omega) (by omega);have f5 : ¬ ((m : Int) > ((most - ol : Nat) : Int)) := (by omega);have g1 : (1 : Int) <= ((N + 1 : Nat) : Int) := (by omega);have g2 : (1 : Int) <= ((C + 1 : Nat) : Int) := (by omega);have g3 : ¬ (C + 1 = 1) := (by omega);have g4 : ¬ (C + 1 = 0) := (by omega);clear s1 s2;rw [hoff] at HRUN HS1;clear HS2;go_upto_region 13 with (at_builtin; go_must (refine wpList_of_append rfl (.tmp 34) (.tmp 37) 22 22 rfl HRUN.out ?_; rintro v' w' ⟨hr2, hg2⟩; obtain ⟨a2, c2, rfl, _, _, _⟩ := own_slice' hr2; have HR2 := hd_ hr2; have HG2 := hd_ hg2; clear hr2 hg2))
   have HB2 := hd_ (HB.out.grown HG2.out HB.out.size HOB.out);have HS3 := hd_ (HS1.out.keepU ((Below.refl w.heap.size wr).grown HG2.out HB.out.size HOB.out) hbw);clear HRUN HR HG2 hc0 f0 f1 f2 f3 f4 f5 g1 g2 g3 g4 hob;have g5 : (m : Int) <= (N : Int) := (by omega);have g6 : (m : Int) <= (C : Int) := (by omega);have HGG : Hid (N - m < gk) := hd_ (by have := Hg.out; omega);by_cases hCm : C = m
   ·subst hCm
    have HNM : Hid (C = N) := hd_ (by omega);go_wp2_with fail
    go_roundg (N - C)
    case measure => have := HGG.out; omega
    case rel =>
     have e0 : N - C = 0 := (by have := HNM.out; omega);have e1' := HS3.out.dropC (m := C) HNM.out off1;rw [List.drop_left' HMC.out] at e1';rw [e0];refine ⟨_, _, _, e1, d1, o ++ c, _, rfl, rfl, rfl, e1', HP1.out, by rw [List.append_assoc]; exact HO.out, ?_, HB2.out, fun z o' ez => ?_⟩
     ·rw [List.length_append, HOL.out, HMC.out]
      exact HR2.out
     ·cases ez
      exact hbw
   ·have hCm2 : ¬ (m = C) := fun e => hCm e.symm
    go_wp2_with fail
    go_roundg (N - m)
    case measure => have := HGG.out; omega
    case rel =>
     have e1' := HS3.out.drop (m := m) (by omega);rw [List.drop_left' HMC.out] at e1';refine ⟨_, _, _, e1, d1, o ++ c, _, rfl, rfl, rfl, e1', HP1.out, by rw [List.append_assoc]; exact HO.out, ?_, HB2.out, fun z o' ez => ?_⟩
     ·rw [List.length_append, HOL.out, HMC.out]
      exact HR2.out
     ·cases ez
      exact hbw
  | @run e1 d1 m x h1 h2 hp1 =>
   have HP1 := hd_ hp1;simp only [List.length_cons] at hlen';have hdl : o.length + (m + d1.length) = d.length := (by rw [<- HO.out]; simp only [List.length_append, List.length_replicate]);have HDL := hd_ hdl;have hdm := HD.out;obtain ⟨b, off, rfl, hc⟩ := HSL.out.cells (by omega);have hc0 : wr.cell? ⟨b, off, none⟩ = some (.int .u8 ((257 - m : Nat) : Int)) := hc 0 (by omega);have hc1 : wr.cell? ⟨b, off + 1, none⟩ = some (.int .u8 x) := hc 1 (by omega);have hbw : b < w.heap.size := HX.out b off rfl;have hxb : 0 <= x /\ x < 256 := by
    have := HSL.out.bytes x (by simp);exact this
   clear hc ho hp1;have s1 := HSL.out.drop (m := 1) (by omega);rw [show ((((257 - m : Nat) : Int) :: x :: e1).drop 1) = x :: e1 from rfl] at s1;have HS1 := hd_ s1;obtain ⟨ol, hol⟩ : ∃ z, o.length = z := ⟨_, rfl⟩;rw [hol] at HR hdl ⊢;have HOL := hd_ hol;obtain ⟨N, hN⟩ : ∃ z, n' - 1 = z := ⟨_, rfl⟩;obtain ⟨C, hC⟩ : ∃ z, cap' - 1 = z := ⟨_, rfl⟩;obtain ⟨off1, hoff⟩ : ∃ z, off + 1 = z := ⟨_, rfl⟩;obtain rfl : n' = N + 1 := (by omega);obtain rfl : cap' = C + 1 := (by omega);simp only [Nat.add_sub_cancel] at s1 HS1;rw [hoff] at hc1 HS1;have HC1 := hd_ hc1;obtain ⟨q, hq⟩ : ∃ z, 257 - m = z := ⟨_, rfl⟩;rw [hq] at hc0;have f0 : (0 : Int) < ((N + 1 : Nat) : Int) := (by omega);have f1 : ¬ ((q : Int) < 128) := (by omega);have f2 : (q : Int) > 128 := (by omega);have f3 : ((N : Int) == 0) = false := (by simp; omega);have f4 : IntKind.i64.wrap ((most : Int) - (ol : Int)) = ((most - ol : Nat) : Int) := i64o (by omega) (by omega);have f5 : ¬ ((m : Int) > ((most - ol : Nat) : Int)) := (by omega);have f6 : IntKind.i64.wrap (257 - (q : Int)) = (m : Int) := i64o (by omega) (by omega);have f7 : ¬ (N = 0) := (by omega);have g1 : (1 : Int) <= ((N + 1 : Nat) : Int) := (by omega);have g2 : (1 : Int) <= ((C + 1 : Nat) : Int) := (by omega);have g3 : ¬ (C + 1 = 1) := (by omega);have g4 : ¬ (C + 1 = 0) := (by omega);have HN0 : Hid (1 <= N /\ N <= C /\ 1 <= m /\ N < gk) := hd_ (by have := Hg.out; omega);have HSZ : Hid (ol + m <= 17179869184) := hd_ (by omega);clear s1 hc1;go_wp2_with fail
   clear f0 f1 f2 f3 f4 f5 f6 f7 g1 g2 g3 g4 hc0;rename World => w1
   go_loopg [6, 57] m (fun gj s6 s57 wi => ∃ (k : Nat) (vk : Value), s6 = vk /\ s57 = .int .i64 (k : Nat) /\ k <= m /\ gj = m - k /\ wi.ownsRow w.heap.size 5 1 vk (ol + k) ((o ++ List.replicate k x).map (Value.int .u8)) /\ Below w.heap.size w wi /\ Below w.heap.size w1 wi)
   case atStart => exact ⟨0, _, rfl, rfl, Nat.zero_le _, rfl, by rw [List.replicate_zero, List.append_nil]; exact HR.out, HB.out, Below.refl _ _⟩
   case round =>
    obtain ⟨k, vk, rfl, rfl, hk, hgj, ho, hb0, hb1⟩ := hrel;have HJ := hd_ hgj;have HB0 := hd_ hb0;have HB1 := hd_ hb1;have HO1 := hd_ ho;clear ho hb0 hb1 hgj;obtain ⟨ak, ck, rfl, _, _, _⟩ := own_slice' HO1.out;by_cases hlt : k < m
    ·have hcx : wr.cell? ⟨b, off1, none⟩ = some (.int .u8 x) := (HB1.out.cell (p := ⟨b, off1, none⟩) hbw).trans HC1.out
     have hb8 : Below wr.heap.size wr (wr.alloc (.cells #[.int .u8 x] 5)) := (Below.refl _ _).alloc (Nat.le_refl _) _;have HS8 : Hid (Sl .u8 (wr.alloc (.cells #[.int .u8 x] 5)) (some ⟨wr.heap.size, 0, none⟩) 1 1 [x]) := hd_ (sl_bytes wr [x] _ _ _ rfl (by unfold maxLen; simp) (wf_of_bytes (fun z hz => by rw [List.mem_singleton.1 hz]; exact hxb)));have HO8 := hd_ (ownsRow_below HO1.out hb8);have HB8 := hd_ (HB0.out.trans (hb8.mono HB0.out.size));have HB18 := hd_ (HB1.out.trans (hb8.mono HB0.out.size));have HRUN := hd_ (run_append_sl _ 22 w.heap.size _ _ _ HO8.out (some ⟨wr.heap.size, 0, none⟩) 1 1 [x] HS8.out (by have := HSZ.out; omega) HB8.out.size);have HOB := hd_ (own_blk HO8.out);clear hb8 HS8 HB0 HB1 HO1;have hN1 : (0 : Int) < (N : Int) := (by have := HN0.out; omega);have hklt : (k : Int) < (m : Int) := (by omega);go_wp2_with (at_builtin; go_must (refine wpList_of_append rfl (.tmp 59) (.tmp 63) 22 22 rfl HRUN.out ?_; rintro v9 w9 ⟨ho9, hg9⟩; have HO9 := hd_ ho9; have HG9 := hd_ hg9; clear ho9 hg9))
     have HB9 := hd_ (HB8.out.grown HG9.out HB8.out.size HOB.out);have HB19 := hd_ (HB18.out.grown HG9.out HB8.out.size HOB.out);go_roundg (m - (k + 1))
     case measure => have := HJ.out; omega
     case rel =>
      refine ⟨k + 1, _, rfl, by go_num, hlt, rfl, ?_, HB9.out, HB19.out⟩;have h9 := HO9.out;rw [List.append_assoc, <- List.replicate_succ'] at h9;exact h9
    ·obtain rfl : k = m := by omega
     have HS3 := hd_ (HS1.out.keepU HB1.out hbw);have hklt : ¬ ((k : Int) < (k : Int)) := (by omega);have hN1 : (1 : Int) <= (N : Int) := (by have := HN0.out; omega);have hC1 : (1 : Int) <= (C : Int) := (by have := HN0.out; omega);by_cases hCm : C = 1
     ·subst hCm
      have HNM : Hid (1 = N) := hd_ (by have := HN0.out; omega);go_wp2_with fail
      go_roundg (N - 1)
      case measure => have := HN0.out; omega
      case rel =>
       have e0 : N - 1 = 0 := (by have := HNM.out; omega);have e1' := HS3.out.dropC (m := 1) HNM.out off1;rw [show (x :: e1).drop 1 = e1 from rfl] at e1';rw [e0];refine ⟨_, _, _, e1, d1, o ++ List.replicate k x, _, rfl, rfl, rfl, e1', HP1.out, by rw [List.append_assoc]; exact HO.out, ?_, HB0.out, fun z o' ez => ?_⟩
       ·rw [List.length_append, HOL.out, List.length_replicate]
        exact HO1.out
       ·cases ez
        exact hbw
     ·have hCm2 : ¬ (1 = C) := fun e => hCm e.symm
      go_wp2_with fail
      go_roundg (N - 1)
      case measure => have := HN0.out; omega
      case rel =>
       have e1' := HS3.out.drop (m := 1) (by have := HN0.out; omega);rw [show (x :: e1).drop 1 = e1 from rfl] at e1';refine ⟨_, _, _, e1, d1, o ++ List.replicate k x, _, rfl, rfl, rfl, e1', HP1.out, by rw [List.append_assoc]; exact HO.out, ?_, HB0.out, fun z o' ez => ?_⟩
       ·rw [List.length_append, HOL.out, List.length_replicate]
        exact HO1.out
       ·cases ez
        exact hbw
end Go.Proofs.YthpckmcgbmfmcaaGreatDoor
namespace Go.Proofs.YthpckmcgbmfmcaaGreatDoor
open Go.RowKit
section
variable {P : Program} {ops : Array Oper} {Q : Exit -> Act -> World -> Prop} {D : Nat -> Nat}
theorem wpAny_laid_tails {R : Nat -> Value -> World -> Prop} {S : Act -> World -> Prop} {a₀ : Act} {w₀ : World} (n : Nat) (hn : n < ops.size)
  (hb : backs ops = true) (hs : Region.sinkB .any ops n = true) (hc : Region.chainB .any ops n = true) (hq : Region.seqB .any ops (ops.toList.drop n).length n (firstN ops.size n) = true) (hlf : left (firstN ops.size n) = (ops.toList.drop n).length) (hp : plainHead ops D n a₀.tmps.size = true)
  (hR : ∀ i v w w', R i v w -> Below w.heap.size w w' -> R i v w')
  (hS : ∀ a w, Below w₀.heap.size w₀ w -> w₀.heap.size <= w.heap.size -> (∀ d, (∀ i, i < n -> D i ≠ d) -> a.tmps[d]? = a₀.tmps[d]?) -> S a w)
  (hop : AllDo (OpDoes P Q S D R) 0 (ops.toList.take n))
  (hfin : ∀ a w, LaidH n D R a₀ w₀ (Array.replicate ops.size true) a w -> wpList P ops Q (ops.toList.drop n) a w) :
  wpAny P .any ops Q ops.size (Array.replicate ops.size false) a₀ { w₀ with drawn := w₀.drawn + 1 } := by
 have key : ∀ fuel listed a w, listed.size = ops.size -> left listed = fuel -> HeadInv .any ops n listed -> LaidH n D R a₀ w₀ listed a w -> wpAny P .any ops Q fuel listed a w := by
  intro fuel
  induction fuel with
  | zero =>
   intro listed a w hsz hl hH _;exfalso;have h1 := left_zero listed hl n;rw [hH.tail n (Nat.le_refl _) hn] at h1;cases h1
  | succ f ih =>
   intro listed a w hsz hl hH hI;by_cases hall : ∀ j, j < n -> listed.getD j false = true
   ·have he := eq_firstN hsz hall hH.tail
    have hL : LaidH n D R a₀ w₀ (Array.replicate ops.size true) a w := ⟨hI.below, hI.defers, hI.size, hI.old, fun j hj _ => hI.new j hj (hall j hj)⟩;have := wpAny_of_seq (md := .any) (Q' := Q) (ops.toList.drop n) n listed a w (fun j => by simp [List.getElem?_drop]) (by rw [he]; exact hq) (hfin a w hL);rw [<- hlf, <- he, hl] at this;exact this
   ·obtain ⟨j0, hj0⟩ := Classical.not_forall.1 hall
    obtain ⟨hj0n, hj0f⟩ := Classical.not_imp.1 hj0;have hj0t : listed.getD j0 true = false := by
     have : j0 < listed.size := (by rw [hsz]; omega);simp [this] at hj0f ⊢; exact hj0f
    refine ⟨fun hnil => ?_, fun i hi => ?_⟩
    ·exfalso
     have h1 := all_listed hb hsz hnil n hn;have h2 := hH.tail n (Nat.le_refl _) hn;have h3 : n < listed.size := (by rw [hsz]; exact hn);simp [h3] at h1 h2;rw [h2] at h1; cases h1
    ·have hin : i < n := by
      rcases Nat.lt_or_ge i n with h | h
      ·exact h
      ·exact absurd hi (tail_waits hs hc hn hH _ j0 rfl hj0n hj0t i h)
     have hi0 := hi;obtain ⟨hun, o, ho, hal⟩ := mem_ready.1 hi;have hlt : i < ops.size := (Array.getElem?_eq_some_iff.1 ho).1;obtain ⟨hg, hd, hdn⟩ := plainHead_at hp hin ho;have hwanted : Region.wanted o (yielded ops a.tmps) = true := (by simp [Region.wanted, hg]);have hdo := AllDo.at hop (i := i) (o := o) (by simpa [List.getElem?_take, hin] using ho);rw [Nat.zero_add] at hdo;unfold wpOp;simp only [ho, hwanted, if_true];refine .inl (Oper.wp_mono ?_ (hdo a w (hS a w hI.below hI.below.size hI.old) fun j hj => ?_))
     ·rintro a' w' ⟨v, rfl, hRv, hbw⟩
      rw [hd];refine ih _ _ _ (by simpa using hsz) ?_ (hH.set hi0 hin) ⟨hI.below.trans (hbw.mono hI.below.size), hI.defers, ?_, ?_, ?_⟩
      ·have := left_set listed i hun
       omega
      ·simpa [Act.put] using hI.size
      ·intro d hdd
       have : D i ≠ d := hdd i hin;simp only [Act.put, Array.getElem?_setIfInBounds_ne this];exact hI.old d hdd
      ·intro j hj hjl
       by_cases hij : i = j
       ·subst hij
        exact ⟨v, by simp [Act.put, hI.size, hdn], hRv⟩
       ·rw [getD_set_ne false hij] at hjl
        obtain ⟨u, hu, hRu⟩ := hI.new j hj hjl;refine ⟨u, ?_, hR j u w w' hRu hbw⟩;simp only [Act.put, Array.getElem?_setIfInBounds_ne (plainHead_ne hp hin hj hij)];exact hu
     ·obtain ⟨e, he, hbd⟩ := Array.any_eq_true'.1 hj
      simp only [Bool.and_eq_true, beq_iff_eq] at hbd;have hl := hal e he hbd.2;rw [hbd.1] at hl;have hjn : j < n := by
       have h1 := List.all_eq_true.1 hb i (List.mem_range.2 hlt);rw [ho] at h1;have h2 := Array.all_eq_true_iff_forall_mem.1 h1 e he;have : e.on < i := (by simpa using h2);omega
      exact hI.new j hjn hl
 refine (key _ _ _ _ (by simp) (by simp [left]) ⟨by simp, fun j oj _ hl => (by rw [getD_replicate_false] at hl; cases hl), fun t _ ht => getD_in (by simpa using ht) (getD_replicate_false _ _)⟩ ⟨Below.drew (Below.refl _ _), rfl, rfl, fun _ _ => rfl, fun i hi hl => ?_⟩);rw [getD_replicate_false] at hl; cases hl
end
end Go.Proofs.YthpckmcgbmfmcaaGreatDoor
namespace Go.Proofs.YthpckmcgbmfmcaaGreatDoor
open Go.RowKit Go.Shelf
def chunkV (b off len step k : Nat) : Value := .slice (some ⟨b, off + k * step, none⟩) (min step (len - k * step)) (min step (len - k * step))
def chunks (len step : Nat) : Nat := (len + step - 1) / step
theorem chunks_lt {len step k : Nat} (hs : 1 <= step) (h : k * step < len) : k < chunks len step := by
 unfold chunks;refine (Nat.le_div_iff_mul_le hs).2 ?_;rw [Nat.succ_mul];omega
theorem chunks_le {len step k : Nat} (hs : 1 <= step) (h : len <= k * step) : chunks len step <= k := by
 unfold chunks;refine Nat.le_of_lt_succ ((Nat.div_lt_iff_lt_mul hs).2 ?_);rw [Nat.succ_mul];omega
abbrev ChIx (len step : Nat) := { k : Nat // k < chunks len step }
def chunkUp (len step : Nat) (pre : List (ChIx len step)) : Prop := pre.map (·.1) = List.range pre.length
theorem chunkUp_snoc {len step : Nat} {pre : List (ChIx len step)} (h : chunkUp len step pre) (x : ChIx len step) (hx : x.1 = pre.length) : chunkUp len step (pre ++ [x]) := by
 unfold chunkUp at *;rw [List.map_append, h, List.length_append];simp [List.range_succ, hx]
def KeepsTwo (A B : Nat) (W W' : World) : Prop := W'.heap[A]? = W.heap[A]? /\ W'.heap[B]? = W.heap[B]?
theorem KeepsTwo.trans {A B : Nat} {W W' W'' : World} (h : KeepsTwo A B W W') (k : KeepsTwo A B W' W'') : KeepsTwo A B W W'' := ⟨k.1.trans h.1, k.2.trans h.2⟩
theorem KeepsTwo.put {A B : Nat} {w : World} (hA : A < w.heap.size) (hB : B < w.heap.size) (W : World) (l : Nat) (o o' : Obj) (hl : w.heap.size <= l) (_ : W.heap[l]? = some o) (_ : o.isCells = false) (_ : o.isWalk = false) : KeepsTwo A B W (W.putObj l o') :=
 ⟨World.putObj_heap_other (by omega), World.putObj_heap_other (by omega)⟩
theorem KeepsTwo.cell1 {A B : Nat} {W W' : World} (h : KeepsTwo A B W W') : W'.cell? ⟨A, 0, none⟩ = W.cell? ⟨A, 0, none⟩ := World.cell?_of_block h.1
theorem KeepsTwo.cell2 {A B : Nat} {W W' : World} (h : KeepsTwo A B W W') : W'.cell? ⟨B, 0, none⟩ = W.cell? ⟨B, 0, none⟩ := World.cell?_of_block h.2
attribute [local go_sem] Oper.semAt_some
theorem grownBy_drew (W : World) : W.grownBy W.drew none := ⟨rfl, rfl, rfl, Nat.le_refl _, fun _ _ _ => rfl⟩
end Go.Proofs.YthpckmcgbmfmcaaGreatDoor
