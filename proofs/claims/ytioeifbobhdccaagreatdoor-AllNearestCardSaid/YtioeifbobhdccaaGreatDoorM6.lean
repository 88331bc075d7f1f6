/- Bytes of any slice, rows of one's own: what all walks of the top lean on. -/
import Derived.Test.YtioeifbobhdccaaGreatDoorM5
import Derived.Laws.OwnMore
import Derived.Lib.FrozenHead
import Derived.Lib.OthersKept
import Derived.BigQuiet
import Derived.Test.YtioeifbobhdccaaGreatDoorM0
import Derived.Test.YtioeifbobhdccaaGreatDoorM4
import Derived.Deep.WholeRow
import Derived.Deep.QuietTactic
import Derived.Deep.LoopGhost
import Derived.Deep.DeepCutAuto
namespace Go.Proofs.YtioeifbobhdccaaGreatDoor
open Go.RowKit Go.Sort Go.Shelf

theorem infoByte : (Tryz.prog.info? 5).map (fun i => (i.zero, i.size, i.bytes)) = some (some (.int .u8 0), 1, 1) := by kernel_rfl
def sm.Bytes (l : List Int) : Prop := ∀ x ∈ l, 0 ≤ x ∧ x < 256
theorem sm.Bytes.append {a b : List Int} (ha : sm.Bytes a) (hb : sm.Bytes b) : sm.Bytes (a ++ b) := by
  intro x hx
  rcases List.mem_append.1 hx with h | h
  · exact ha x h
  · exact hb x h
theorem sm.Bytes.take {a : List Int} (ha : sm.Bytes a) (n : Nat) : sm.Bytes (a.take n) := fun x hx => ha x (List.mem_of_mem_take hx)
theorem sm.Bytes.drop {a : List Int} (ha : sm.Bytes a) (n : Nat) : sm.Bytes (a.drop n) := fun x hx => ha x (List.mem_of_mem_drop hx)
theorem wf_of_bytes {l : List Int} (h : sm.Bytes l) : ∀ x ∈ l, (Lit.int .u8 x).wf = true := by
  intro x hx
  have := h x hx
  simp [Lit.wf, IntKind.min, IntKind.max, IntKind.bits, IntKind.signed]
  omega

theorem Sl.take {k : IntKind} {w : World} {a : Option Addr} {n cap m : Nat} {l : List Int} (h : Sl k w a n cap l) (hm : m ≤ n) : Sl k w a m cap (l.take m) :=
  ⟨by rw [List.length_take, h.len]; omega, Nat.le_trans hm h.fits, h.most, h.bare, fun x hx => h.wf x (List.mem_of_mem_take hx), h.rd.take m⟩
theorem Sl.drop {k : IntKind} {w : World} {b off n cap m : Nat} {l : List Int} (h : Sl k w (some ⟨b, off, none⟩) n cap l) (hm : m ≤ n) : Sl k w (some ⟨b, off + m, none⟩) (n - m) (cap - m) (l.drop m) :=
  ⟨by rw [List.length_drop, h.len], by have := h.fits; omega, Nat.le_trans (Nat.sub_le _ _) h.most, (fun e => by cases e), fun x hx => h.wf x (List.mem_of_mem_drop hx), h.rd.drop m⟩

theorem Sl.bytes {w : World} {a : Option Addr} {n cap : Nat} {l : List Int} (h : Sl .u8 w a n cap l) : sm.Bytes l := by
  intro x hx
  have := h.wf x hx
  simp [Lit.wf, IntKind.min, IntKind.max, IntKind.bits, IntKind.signed] at this
  omega
theorem byte_getD {l : List Int} (h : sm.Bytes l) (x : Nat) : 0 ≤ l.getD x 0 ∧ l.getD x 0 < 256 := by
  rw [List.getD_eq_getElem?_getD]
  rcases Nat.lt_or_ge x l.length with hx | hx
  · rw [List.getElem?_eq_getElem hx]
    exact h _ (List.getElem_mem hx)
  · rw [List.getElem?_eq_none hx]
    exact ⟨by decide, by decide⟩
/-- a literal's bytes in new memory -/
theorem sl_bytes (w : World) (l : List Int) (t : TypeId) (fr : Nat × Nat) (g : Nat) (hg : w.heap.size = g) (hm : l.length ≤ maxLen) (hw : ∀ x ∈ l, (Lit.int .u8 x).wf = true) : Sl .u8 (w.alloc (.cells (l.map (Value.int .u8)).toArray t fr)) (some ⟨g, 0, none⟩) l.length l.length l := by
  subst hg
  refine ⟨rfl, Nat.le_refl _, hm, (fun h => nomatch h), hw, .inr ⟨_, _, rfl, fun i hi => ?_⟩⟩
  rw [Nat.zero_add, cell_of_row _ _ _ _ _ _ (heap_alloc_new w _)]
  simp [List.getD_eq_getElem?_getD, List.getElem?_eq_getElem hi]


theorem rows_apart {w : World} {base base' m m' size size' : Nat} {e e' : TypeId} {xs xs' : List Value} {v v' : Value} (h : w.ownsRow base e size v m xs) (h' : w.ownsRow base' e' size' v' m' xs') (ht : e' ≠ e) : v.ownBlock = none ∨ v.ownBlock ≠ v'.ownBlock := by
  rcases h'.2 with ⟨rfl, _⟩ | ⟨g, cap, cur, rfl, _, hg, _⟩
  · cases hv : v.ownBlock with
    | none => exact .inl rfl
    | some k => exact .inr (by simp [Value.ownBlock])
  · exact row_apart h hg ht
theorem own_not_loop {w : World} {base m size l : Nat} {e : TypeId} {xs : List Value} {v : Value} {o : Obj} (h : w.ownsRow base e size v m xs) (hl : w.heap[l]? = some o) (ho : o.isCells = false) : some l ≠ v.ownBlock := by
  rcases h.2 with ⟨rfl, _⟩ | ⟨g, cap, cur, rfl, _, hg, _⟩
  · simp [Value.ownBlock]
  · intro e'
    have : l = g := by simpa [Value.ownBlock] using e'
    subst this
    rw [hl] at hg
    cases hg
    cases ho


/-- bytes of any slice, to a row of one's own -/
def AppOut (base n : Nat) (xs : List Int) (w : World) (row : Option Nat) (v' : Value) (w' : World) : Prop :=
  w'.ownsRow base 5 1 v' n (xs.map (Value.int .u8)) ∧ w.grownBy w' row
theorem run_append_sl (w : World) (ty : TypeId) (base : Nat) (v : Value) (n : Nat) (xs : List Int) (hown : w.ownsRow base 5 1 v n (xs.map (Value.int .u8))) (p : Option Addr) (m c : Nat) (d : List Int) (hs : Sl .u8 w p m c d)
    (hb : n + m ≤ 140737488355328) (hbase : base ≤ w.heap.size) :
    ∃ v' w', (Builtin.append_ #[26, 26] ty #[v, .slice p m c]).run Tryz.prog w = .ok v' w' ∧ AppOut base (n + m) (xs ++ d) w v.ownBlock v' w' := by
  obtain ⟨i0, hi, hz0, hz1, hz2⟩ := info_parts infoByte
  cases p with
  | none =>
    have hc := hs.bare rfl
    have hf := hs.fits
    obtain rfl : c = 0 := hc
    obtain rfl : m = 0 := by omega
    obtain rfl : d = [] := List.eq_nil_of_length_eq_zero hs.len
    exact ⟨v, w, run_append_owned_none (P := Tryz.prog) w base 26 ty 5 i0 1 Tryz.underlying26 hi v n _ hown, by rw [List.append_nil]; exact hown, ⟨rfl, rfl, rfl, Nat.le_refl _, fun _ _ _ => rfl⟩⟩
  | some ad =>
    obtain ⟨v', w', h1, h2, h3, _⟩ := run_append_own (P := Tryz.prog) w base 26 ty 5 i0 (.int .u8 0) 1 1 Tryz.underlying26 hi hz0 hz1 hz2 rfl (by decide) v n _ hown ad m c (d.map (Value.int .u8)) (by rw [List.length_map, hs.len, Nat.mul_one]) hs.at_news (ints_oneCell _ _) (by unfold maxLen; omega) (by omega) hbase
    exact ⟨v', w', h1, by rw [List.map_append]; exact h2, h3⟩

theorem Sl.grown {k : IntKind} {w w' : World} {g n c : Nat} {l : List Int} {row : Option Nat} (h : Sl k w (some ⟨g, 0, none⟩) n c l) (hg : w.grownBy w' row) (hne : some g ≠ row) : Sl k w' (some ⟨g, 0, none⟩) n c l := by
  refine ⟨h.len, h.fits, h.most, h.bare, h.wf, ?_⟩
  rcases h.rd with h0 | ⟨b, off, e, hc⟩
  · exact .inl h0
  · simp only [Option.some.injEq, Addr.mk.injEq, and_true] at e
    obtain ⟨rfl, rfl⟩ := e
    exact .inr ⟨g, 0, rfl, fun i hi => (World.cell?_of_block (hg.block g (block_lt_of_cell (hc i hi)) hne)).trans (hc i hi)⟩
/-- append to a row of one's own, told where the row comes to lie -/
theorem run_append_sl_at (w : World) (ty : TypeId) (base : Nat) (v : Value) (n : Nat) (xs : List Int) (hown : w.ownsRow base 5 1 v n (xs.map (Value.int .u8))) (ad : Addr) (m c : Nat) (d : List Int) (hs : Sl .u8 w (some ad) m c d)
    (hb : n + m ≤ 140737488355328) (hbase : base ≤ w.heap.size) :
    ∃ v' w', (Builtin.append_ #[26, 26] ty #[v, .slice (some ad) m c]).run Tryz.prog w = .ok v' w' ∧ (AppOut base (n + m) (xs ++ d) w v.ownBlock v' w' ∧ (v'.ownBlock = v.ownBlock ∨ v'.ownBlock = some w.heap.size)) := by
  obtain ⟨i0, hi, hz0, hz1, hz2⟩ := info_parts infoByte
  obtain ⟨v', w', h1, h2, h3, _, h5⟩ := run_append_own_at (P := Tryz.prog) w base 26 ty 5 i0 (.int .u8 0) 1 1 Tryz.underlying26 hi hz0 hz1 hz2 rfl (by decide) v n _ hown ad m c (d.map (Value.int .u8)) (by rw [List.length_map, hs.len, Nat.mul_one]) hs.at_news (ints_oneCell _ _) (by unfold maxLen; omega) (by omega) hbase
  exact ⟨v', w', h1, ⟨by rw [List.map_append]; exact h2, h3⟩, h5⟩

section
variable {P : Program} {w : World} {ops : Array Oper} {rest : List Oper} {o : Oper} {a : Act} {Q : Exit → Act → World → Prop} {K : Act → World → Prop}
theorem wp_of_append {Φ : Value → World → Prop} (s x : Operand) (t u : TypeId) (ho : o.op = .call { callee := .builtin .append, args := #[s, x], argTypes := #[t, u] })
    (hr : ∃ v' w', (Builtin.append_ #[t, u] o.type #[a.eval s, a.eval x]).run P w = .ok v' w' ∧ Φ v' w') (h : ∀ v' w', Φ v' w' → K (a.put o.dst v') w') : o.wp P a w K Q := by
  obtain ⟨v', w', h1, h2⟩ := hr
  unfold Oper.wp execOp
  simp only [ho, resolve, invoke, builtin, Sem.run_bind, Sem.run_pure, Result.andThen_ok, List.map_toArray, List.map_cons, List.map_nil, h1]
  exact h _ _ h2
theorem wpList_of_append {Φ : Value → World → Prop} (hgd : o.guard = none) (s x : Operand) (t u : TypeId) (ho : o.op = .call { callee := .builtin .append, args := #[s, x], argTypes := #[t, u] })
    (hr : ∃ v' w', (Builtin.append_ #[t, u] o.type #[a.eval s, a.eval x]).run P w = .ok v' w' ∧ Φ v' w') (h : ∀ v' w', Φ v' w' → wpList P ops Q rest (a.put o.dst v') w') : wpList P ops Q (o :: rest) a w :=
  wpList_plain hgd fun _ hK => wp_of_append s x t u ho hr fun v' w' hp => hK _ _ (h v' w' hp)
theorem step_of_append {E : Prop} {Φ : Value → World → Prop} (hgd : o.guard = none) (s x : Operand) (t u : TypeId) (ho : o.op = .call { callee := .builtin .append, args := #[s, x], argTypes := #[t, u] })
    (hr : ∃ v' w', (Builtin.append_ #[t, u] o.type #[a.eval s, a.eval x]).run P w = .ok v' w' ∧ Φ v' w') (h : ∀ v' w', Φ v' w' → K (a.put o.dst v') w') :
    if Region.wanted o (yielded ops a.tmps) = true then Oper.wp P o a w K Q else E := by
  rw [if_pos (by simp [Region.wanted, hgd])]
  exact wp_of_append s x t u ho hr h
end


theorem own_form {w : World} {base : Nat} {e : TypeId} {size : Nat} {v : Value} {n : Nat} {xs : List Value} (h : w.ownsRow base e size v n xs) (hn : 0 < n) : ∃ g cap, v = .slice (some ⟨g, 0, none⟩) n cap ∧ n ≤ cap := by
  rcases h.2 with ⟨_, h'⟩ | ⟨g, cap, cur, h', _, _, h1, _⟩
  · omega
  · exact ⟨g, cap, h', h1⟩

theorem own_sl {w : World} {base : Nat} {v : Value} {n : Nat} {l : List Int} (h : w.ownsRow base 5 1 v n (l.map (Value.int .u8))) (hw : ∀ x ∈ l, 0 ≤ x ∧ x < 256) : ∃ a cap, v = .slice a n cap ∧ Sl .u8 w a n cap l ∧ (n = 0 ∨ ∃ b, a = some ⟨b, 0, none⟩) := by
  rcases h.2 with ⟨rfl, rfl⟩ | ⟨g, cap, cur, rfl, _⟩
  · have hl : l = [] := List.eq_nil_of_length_eq_zero (by simpa using h.1)
    subst hl
    exact ⟨none, 0, rfl, ⟨rfl, Nat.le_refl _, Nat.zero_le _, fun _ => rfl, (fun x hx => nomatch hx), .inl rfl⟩, .inl rfl⟩
  · exact ⟨_, cap, rfl, Fresh.sl h (wf_of_bytes hw), .inr ⟨g, rfl⟩⟩


theorem own_slice' {w : World} {base : Nat} {e : TypeId} {size : Nat} {v : Value} {n : Nat} {xs : List Value} (h : w.ownsRow base e size v n xs) : ∃ a c, v = .slice a n c ∧ n ≤ c ∧ c ≤ maxLen ∧ ((n = 0 ∧ c = 0) ∨ ∃ g, a = some ⟨g, 0, none⟩ ∧ ∀ i x, xs[i]? = some x → w.cell? ⟨g, i, none⟩ = some x) := by
  rcases h.2 with ⟨rfl, rfl⟩ | ⟨g, cap, cur, rfl, h1, h2, h3, h4, h5, h6⟩
  · exact ⟨none, 0, rfl, Nat.le_refl _, Nat.zero_le _, .inl ⟨rfl, rfl⟩⟩
  · refine ⟨_, cap, rfl, h3, h4, .inr ⟨g, rfl, fun i x hx => ?_⟩⟩
    have hi : i < n * size := by
      rw [← h.1]
      exact (List.getElem?_eq_some_iff.1 hx).1
    rw [cell_of_row _ _ _ _ _ _ h2]
    rw [← h6, List.getElem?_take, if_pos hi] at hx
    simpa using hx

theorem own_cur {w : World} {base g n c k : Nat} {l : List Int} (h : w.ownsRow base 5 1 (.slice (some ⟨g, 0, none⟩) n c) n (l.map (Value.int .u8))) (hk : k < n) :
    ∃ cur, w.heap[g]? = some (.cells cur 5 (0, 0)) ∧ cur[k]? = some (.int .u8 (l.getD k 0)) ∧ n ≤ cur.size ∧ cur.toList.take n = l.map (Value.int .u8) := by
  rcases h.2 with ⟨h', _⟩ | ⟨g', cap, cur, h', h1, h2, h3, h4, h5, h6⟩
  · cases h'
  · simp only [Value.slice.injEq, Option.some.injEq, Addr.mk.injEq, and_true, true_and] at h'
    obtain ⟨rfl, rfl⟩ := h'
    refine ⟨cur, h2, ?_, by omega, by simpa using h6⟩
    have e := congrArg (fun l : List Value => l[k]?) h6
    simp only [Nat.mul_one] at e
    rw [List.getElem?_take, if_pos hk, List.getElem?_map] at e
    have hl : k < l.length := by
      have := h.1
      simp at this
      omega
    rw [List.getElem?_eq_getElem hl] at e
    rw [← Array.getElem?_toList, e]
    simp [List.getD_eq_getElem?_getD, hl]

/-- one byte of a row is written -/
theorem sl_put {w : World} {g n c k : Nat} {l : List Int} {cur : Array Value} {y : Int} (h : Sl .u8 w (some ⟨g, 0, none⟩) n c l) (hg : w.heap[g]? = some (.cells cur 5 (0, 0))) (hk : k < n) (hcz : n ≤ cur.size) (hy : 0 ≤ y ∧ y < 256) :
    Sl .u8 (w.setCell ⟨g, k, none⟩ (.int .u8 y)) (some ⟨g, 0, none⟩) n c (l.set k y) := by
  have hwf : (Lit.int .u8 y).wf = true := wf_of_bytes (l := [y]) (fun x hx => by rw [List.mem_singleton.1 hx]; exact hy) y (by simp)
  have hl := h.len
  refine ⟨by rw [List.length_set]; exact hl, h.fits, h.most, (fun e => nomatch e), fun x hx => ?_, ?_⟩
  · rcases List.mem_or_eq_of_mem_set hx with h1 | rfl
    · exact h.wf x h1
    · exact hwf
  · rcases h.rd with h0 | ⟨b, off, e, hc⟩
    · rw [h0] at hl
      simp at hl
      omega
    · simp only [Option.some.injEq, Addr.mk.injEq, and_true] at e
      obtain ⟨rfl, rfl⟩ := e
      refine .inr ⟨g, 0, rfl, fun i hi => ?_⟩
      rw [List.length_set] at hi
      have h1 := hc i hi
      rw [setCell_eq_setRow w g k cur 5 (0, 0) _ hg, cell_of_row _ _ _ _ _ _ (setRow_heap w g cur _ _ _ hg)]
      rw [cell_of_row _ _ _ _ _ _ hg] at h1
      rw [Nat.zero_add] at h1 ⊢
      by_cases hik : i = k
      · subst hik
        simp [List.getD_eq_getElem?_getD, hi, show i < cur.size by omega]
      · rw [Array.getElem?_setIfInBounds_ne (Ne.symm hik), h1]
        simp [List.getD_eq_getElem?_getD, Ne.symm hik]

/-- one byte of a row of one's own is written -/
theorem own_put {w : World} {base g n c k : Nat} {l : List Int} (y : Int) (h : w.ownsRow base 5 1 (.slice (some ⟨g, 0, none⟩) n c) n (l.map (Value.int .u8))) (_hk : k < n) :
    (w.setCell ⟨g, k, none⟩ (.int .u8 y)).ownsRow base 5 1 (.slice (some ⟨g, 0, none⟩) n c) n ((l.set k y).map (Value.int .u8)) := by
  rcases h.2 with ⟨h', _⟩ | ⟨g', cap, cur, h', h1, h2, h3, h4, h5, h6⟩
  · cases h'
  · simp only [Value.slice.injEq, Option.some.injEq, Addr.mk.injEq, and_true, true_and] at h'
    obtain ⟨rfl, rfl⟩ := h'
    have hl : l.length = n := by
      have := h.1
      simpa using this
    refine ⟨by rw [List.length_map, List.length_set, hl, Nat.mul_one], .inr ⟨g, c, cur.setIfInBounds k (.int .u8 y), rfl, h1, ?_, h3, h4, by rw [Array.size_setIfInBounds]; exact h5, ?_⟩⟩
    · rw [setCell_eq_setRow w g k cur 5 (0, 0) _ h2]
      exact setRow_heap w g cur _ _ _ h2
    · rw [Array.toList_setIfInBounds, List.take_set, h6, List.map_set]


theorem grown_new {a b c : World} {ob row : Option Nat} (h : a.grownBy b ob) (k : b.grownBy c row) (hr : row = ob ∨ ∃ j, row = some j ∧ a.heap.size ≤ j) : a.grownBy c ob := by
  refine ⟨k.os.trans h.os, k.tape.trans h.tape, k.output.trans h.output, Nat.le_trans h.size k.size, fun i hi hne => ?_⟩
  have h1 : some i ≠ row := by
    rcases hr with rfl | ⟨j, rfl, hj⟩
    · exact hne
    · intro e
      have := Option.some.inj e
      omega
  exact (k.block i (Nat.lt_of_lt_of_le hi h.size) h1).trans (h.block i hi hne)

end Go.Proofs.YtioeifbobhdccaaGreatDoor
/- Samples and colours. -/
namespace Go.Proofs.YtioeifbobhdccaaGreatDoor
open Go.RowKit

theorem up_any (v most : Int) (w : World) :
    Calls Tryz.prog 50 #[.int .i64 v, .int .i64 most] w fun e w' => e = .returned (.tuple #[.int .u16 (tm.upV v most), .int .i64 (tm.upE v most)]) ∧ w = w' := by
  by_cases hb : tm.upBad v most
  · have HV : Hid (tm.upV v most = 0) := Lib.hid (if_pos hb)
    have HE : Hid (tm.upE v most = 2) := Lib.hid (if_pos hb)
    rw [HV.out, HE.out]
    have hc : most < 1 ∨ (1 ≤ most ∧ 65535 < most) ∨ (1 ≤ most ∧ most ≤ 65535 ∧ v < 0) ∨ (1 ≤ most ∧ most ≤ 65535 ∧ 0 ≤ v ∧ most < v) := by
      unfold tm.upBad at hb; omega
    clear hb
    rcases hc with h | ⟨h1, h⟩ | ⟨h1, h2, h⟩ | ⟨h1, h2, h3, h⟩
    all_goals
      go_enter Tryz.func50, Tryz.ntmps50
      go_wp2
      go_ret2
      exact ⟨rfl, rfl⟩
  · have HV : Hid (tm.upV v most = (65535 * v + most / 2) / most) := Lib.hid (if_neg hb)
    have HE : Hid (tm.upE v most = 0) := Lib.hid (if_neg hb)
    have hr := tm.upV_range v most
    rw [HV.out] at hr
    rw [HV.out, HE.out]
    simp only [tm.upBad, not_or] at hb
    obtain ⟨h1, h2, h3, h4⟩ := hb
    go_enter Tryz.func50, Tryz.ntmps50
    go_wp2
    go_ret2
    exact ⟨rfl, rfl⟩

theorem down_any (v most : Int) (w : World) (hv : 0 ≤ v ∧ v ≤ 65535) :
    Calls Tryz.prog 71 #[.int .u16 v, .int .i64 most] w fun e w' => e = .returned (.tuple #[.int .i64 (tm.downV v most), .int .i64 (tm.downE most)]) ∧ w = w' := by
  by_cases hb : tm.downBad most
  · have HV : Hid (tm.downV v most = 0) := Lib.hid (if_pos hb)
    have HE : Hid (tm.downE most = 2) := Lib.hid (if_pos hb)
    rw [HV.out, HE.out]
    have hc : most < 1 ∨ (1 ≤ most ∧ 65535 < most) := by
      unfold tm.downBad at hb; omega
    clear hb
    rcases hc with h | ⟨h1, h⟩
    all_goals
      go_enter Tryz.func71, Tryz.ntmps71
      go_wp2
      go_ret2
      exact ⟨rfl, rfl⟩
  · have HV : Hid (tm.downV v most = (v * most + 32767) / 65535) := Lib.hid (if_neg hb)
    have HE : Hid (tm.downE most = 0) := Lib.hid (if_neg hb)
    rw [HV.out, HE.out]
    simp only [tm.downBad, not_or] at hb
    obtain ⟨h1, h2⟩ := hb
    have hm0 : 0 ≤ v * most := Int.mul_nonneg (by omega) (by omega)
    have hm1 : v * most ≤ 65535 * 65535 := Int.mul_le_mul (by omega) (by omega) (by omega) (by omega)
    go_enter Tryz.func71, Tryz.ntmps71
    go_wp2
    go_ret2
    exact ⟨rfl, rfl⟩

/-- a colour's value -/
def col (r g b a : Int) : Value := .agg #[.int .u16 r, .int .u16 g, .int .u16 b, .int .u16 a]

/-- a colour -/
structure C4 where
  r : Int
  g : Int
  b : Int
  a : Int
def C4.ok (c : C4) : Prop := (0 ≤ c.r ∧ c.r ≤ 65535) ∧ (0 ≤ c.g ∧ c.g ≤ 65535) ∧ (0 ≤ c.b ∧ c.b ≤ 65535) ∧ (0 ≤ c.a ∧ c.a ≤ 65535)
def C4.far (c d : C4) : Int := tm.far c.r c.g c.b d.r d.g d.b
def C4.zero : C4 := ⟨0, 0, 0, 0⟩

/-- what a list of colours is read from -/
def RdC (w : World) (a : Option Addr) (l : List C4) : Prop :=
  l = [] ∨ ∃ b off, a = some ⟨b, off, none⟩ ∧ ∀ i, i < l.length →
    w.cell? ⟨b, off + i * 4, none⟩ = some (.int .u16 (l.getD i C4.zero).r) ∧ w.cell? ⟨b, off + i * 4 + 1, none⟩ = some (.int .u16 (l.getD i C4.zero).g) ∧
    w.cell? ⟨b, off + i * 4 + 2, none⟩ = some (.int .u16 (l.getD i C4.zero).b) ∧ w.cell? ⟨b, off + i * 4 + 3, none⟩ = some (.int .u16 (l.getD i C4.zero).a)

/-- the nearest of the first k, of several the first: its place (none: -1) -/
def near (l : List C4) (c : C4) : Nat → Int
  | 0 => -1
  | k + 1 => if near l c k < 0 ∨ (l.getD k C4.zero).far c < (l.getD (near l c k).toNat C4.zero).far c then (k : Int) else near l c k

theorem near_range (l : List C4) (c : C4) (k : Nat) : -1 ≤ near l c k ∧ near l c k < k ∧ (0 < k → 0 ≤ near l c k) := by
  induction k with
  | zero => simp [near]
  | succ k ih =>
    unfold near
    split
    · omega
    · rename_i h
      omega

set_option maxRecDepth 100000 in
set_option maxHeartbeats 800000 in
theorem nearest_any (a : Option Addr) (n cap : Nat) (l : List C4) (c : C4) (w : World) (hn : l.length = n) (hm : n ≤ maxLen) (hok : ∀ x ∈ l, x.ok) (hc : c.ok) (hr : RdC w a l) :
    Calls Tryz.prog 38 #[.slice a n cap, .agg #[.int .u16 c.r, .int .u16 c.g, .int .u16 c.b, .int .u16 c.a]] w fun e w' => e = .returned (.int .i64 (near l c n)) ∧ Below w.heap.size w w' := by
  unfold maxLen at hm
  have Hr := Lib.hid hr
  have Hn := Lib.hid hn
  have Hok := Lib.hid hok
  clear hr hn hok
  obtain ⟨hc1, hc2, hc3, hc4⟩ := hc
  go_enter Tryz.func38, Tryz.ntmps38
  go_wp2
  go_loopg [5, 6, 15] n (fun gk s5 s6 i wr => ∃ (k : Nat) (p q : Int), k ≤ n ∧ gk = n - k ∧ i = .int .i64 k ∧ s5 = .int .i64 p ∧ s6 = .int .i64 q ∧ p = near l c k ∧ q = (if near l c k < 0 then 0 else (l.getD (near l c k).toNat C4.zero).far c) ∧ Below w.heap.size w wr ∧
    wr.cell? ⟨w.heap.size, 0, none⟩ = some (.int .u16 c.r) ∧ wr.cell? ⟨w.heap.size, 1, none⟩ = some (.int .u16 c.g) ∧ wr.cell? ⟨w.heap.size, 2, none⟩ = some (.int .u16 c.b) ∧ w.heap.size < wr.heap.size)
  case atStart => exact ⟨0, _, _, by omega, rfl, rfl, rfl, rfl, rfl, rfl, (Below.refl _ _).alloc (Nat.le_refl _) _, by rw [World.cell?_alloc_at _ _ _ _ rfl]; rfl, by rw [World.cell?_alloc_at _ _ _ _ rfl]; rfl, by rw [World.cell?_alloc_at _ _ _ _ rfl]; rfl, by simp⟩
  case round =>
    obtain ⟨k, p, q, hk, hg, rfl, rfl, rfl, hp, hq, hnx, x1, x2, x3, hsz⟩ := hrel
    have Hg := Lib.hid hg
    have Hnx := Lib.hid hnx
    have Hp := Lib.hid hp
    have Hq := Lib.hid hq
    have hpr := near_range l c k
    rw [← hp] at hpr
    clear hg hnx hp hq
    by_cases hlt : k < n
    · rcases Hr.out with h0 | ⟨b, off, rfl, hcell⟩
      · have := Hn.out; rw [h0] at this; simp at this; omega
      · obtain ⟨y0, y1, y2, y3⟩ := hcell k (by rw [Hn.out]; exact hlt)
        have hbl : b < w.heap.size := block_lt_of_cell y0
        rw [← Hnx.out.cell (p := ⟨b, _, none⟩) hbl] at y0 y1 y2 y3
        clear hcell
        have hxm : l.getD k C4.zero ∈ l := by
          rw [List.getD_eq_getElem?_getD, List.getElem?_eq_getElem (by rw [Hn.out]; exact hlt)]; exact List.getElem_mem _
        obtain ⟨hx1, hx2, hx3, hx4⟩ := Hok.out _ hxm
        have HS : Hid (near l c (k + 1) = if near l c k < 0 ∨ (l.getD k C4.zero).far c < (l.getD (near l c k).toNat C4.zero).far c then (k : Int) else near l c k) := Lib.hid rfl
        have HX : Hid ((l.getD k C4.zero).far c = tm.far (l.getD k C4.zero).r (l.getD k C4.zero).g (l.getD k C4.zero).b c.r c.g c.b) := Lib.hid rfl
        have q1 := tm.sq_range hx1 hc1
        have q2 := tm.sq_range hx2 hc2
        have q3 := tm.sq_range hx3 hc3
        clear hxm
        obtain ⟨x, hx⟩ : ∃ x, x = l.getD k C4.zero := ⟨_, rfl⟩
        have Hx := Lib.hid hx
        rw [← hx] at y0 y1 y2 y3 hx1 hx2 hx3 hx4 q1 q2 q3 HX
        clear hx
        have HD : Hid (p < 0 ∨ (0 ≤ p ∧ (x.r - c.r) * (x.r - c.r) + (x.g - c.g) * (x.g - c.g) + (x.b - c.b) * (x.b - c.b) < q) → near l c (k + 1) = (k : Int)) := Lib.hid (by
          intro h
          rw [HS.out, ← Hp.out, if_pos]
          rcases h with h | ⟨h1, h2⟩
          · exact .inl h
          · refine .inr ?_
            rw [Hq.out, if_neg (by rw [← Hp.out]; omega), ← Hp.out] at h2
            rw [← Hx.out]
            exact h2)
        have HN : Hid (0 ≤ p ∧ ¬ ((x.r - c.r) * (x.r - c.r) + (x.g - c.g) * (x.g - c.g) + (x.b - c.b) * (x.b - c.b) < q) → near l c (k + 1) = near l c k) := Lib.hid (by
          intro h
          rw [HS.out, ← Hp.out, if_neg]
          intro h'
          rcases h' with h' | h'
          · omega
          · refine h.2 ?_
            rw [Hq.out, if_neg (by rw [← Hp.out]; omega), ← Hp.out]
            rw [← Hx.out] at h'
            exact h')
        have HF : Hid (near l c (k + 1) = (k : Int) → (x.r - c.r) * (x.r - c.r) + (x.g - c.g) * (x.g - c.g) + (x.b - c.b) * (x.b - c.b) = if near l c (k + 1) < 0 then 0 else (l.getD (near l c (k + 1)).toNat C4.zero).far c) := Lib.hid (by
          intro h
          rw [h, if_neg (by omega), Int.toNat_natCast, ← Hx.out, HX.out]
          rfl)
        clear HS HX
        have hcase : p < 0 ∨ (0 ≤ p ∧ (x.r - c.r) * (x.r - c.r) + (x.g - c.g) * (x.g - c.g) + (x.b - c.b) * (x.b - c.b) < q) ∨ (0 ≤ p ∧ ¬ ((x.r - c.r) * (x.r - c.r) + (x.g - c.g) * (x.g - c.g) + (x.b - c.b) * (x.b - c.b) < q)) := by omega
        have hnew : ∀ v, (wr.alloc v).heap.size = wr.heap.size + 1 := fun v => by simp
        have Hnew := Lib.hid hnew
        clear hnew
        have HB : Hid (∀ o nq, Below w.heap.size w ((wr.alloc o).drewN nq)) := Lib.hid (fun o nq => below_drewN (Hnx.out.alloc Hnx.out.size o) nq)
        have HC : Hid (∀ o nq j, ((wr.alloc o).drewN nq).cell? ⟨w.heap.size, j, none⟩ = wr.cell? ⟨w.heap.size, j, none⟩) := Lib.hid (fun o nq j => World.cell?_alloc_past o w.heap.size j hsz)
        have HZ : Hid (∀ o nq, w.heap.size < ((wr.alloc o).drewN nq).heap.size) := Lib.hid (fun o nq => by show w.heap.size < (wr.alloc o).heap.size; simp; omega)
        rcases hcase with h | ⟨h0, h⟩ | ⟨h0, h⟩
        · have HD1 := Lib.hid (HD.out (.inl h))
          have HF1 := Lib.hid (HF.out HD1.out)
          go_wp2
          go_quiet (fail)
          go_wp2
          go_roundg (n - (k + 1))
          case measure => have := Hg.out; omega
          case rel => exact ⟨k + 1, _, _, by omega, rfl, by go_num, rfl, rfl, HD1.out.symm, HF1.out, HB.out _ _, (HC.out _ _ _).trans x1, (HC.out _ _ _).trans x2, (HC.out _ _ _).trans x3, HZ.out _ _⟩
        · have HD1 := Lib.hid (HD.out (.inr ⟨h0, h⟩))
          have HF1 := Lib.hid (HF.out HD1.out)
          have h0' : ¬ p < 0 := by omega
          go_wp2
          go_quiet (fail)
          go_wp2
          go_roundg (n - (k + 1))
          case measure => have := Hg.out; omega
          case rel => exact ⟨k + 1, _, _, by omega, rfl, by go_num, rfl, rfl, HD1.out.symm, HF1.out, HB.out _ _, (HC.out _ _ _).trans x1, (HC.out _ _ _).trans x2, (HC.out _ _ _).trans x3, HZ.out _ _⟩
        · have HN1 := Lib.hid (HN.out ⟨h0, h⟩)
          have h0' : ¬ p < 0 := by omega
          go_wp2
          go_quiet (fail)
          go_wp2
          go_roundg (n - (k + 1))
          case measure => have := Hg.out; omega
          case rel => exact ⟨k + 1, _, _, by omega, rfl, by go_num, rfl, rfl, Hp.out.trans HN1.out.symm, Hq.out.trans (by rw [HN1.out]), HB.out _ _, (HC.out _ _ _).trans x1, (HC.out _ _ _).trans x2, (HC.out _ _ _).trans x3, HZ.out _ _⟩
    · obtain rfl : k = n := by omega
      go_wp2
      go_ret
      exact ⟨by rw [← Hp.out]; rfl, Hnx.out⟩
end Go.Proofs.YtioeifbobhdccaaGreatDoor
