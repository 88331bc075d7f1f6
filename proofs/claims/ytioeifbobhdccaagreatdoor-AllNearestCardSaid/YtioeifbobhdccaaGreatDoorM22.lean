/- quant's bag: boxes of colours, put and taken. -/
import Derived.Test.YtioeifbobhdccaaGreatDoorM14
import Derived.Test.YtioeifbobhdccaaGreatDoorM19
import Derived.Shelf.SlicesE.Delete
namespace Go.Proofs.YtioeifbobhdccaaGreatDoor
open Go.RowKit Go.Sort Go.Shelf Go.Lib
attribute [local go_sem] Oper.semAt_some

/-! ### slices.Delete at boxes: the shelf's contract, laid -/
def delRen : Go.Shelf.Ren := ⟨fun | 45 => 82 | n => n, fun | 22 => 114 | 23 => 34 | 3 => 3 | 4 => 4 | 0 => 0 | n => n, fun | n => n⟩
theorem delLays : Go.Proofs.SlLaysE.n45 Tryz.prog delRen := {
  mixed := by kernel_rfl
  f45 := ⟨Tryz.f82.name, by decide, Tryz.func82.trans (congrArg some (by kernel_rfl))⟩
  t0 := Tryz.underlying0
  a0 := Tryz.isAgg0
  z0 := Tryz.sizeOf0
  v0 := Tryz.zeroValue0
  t3 := Tryz.underlying3
  a3 := Tryz.isAgg3
  z3 := Tryz.sizeOf3
  v3 := Tryz.zeroValue3
  t4 := Tryz.underlying4
  a4 := Tryz.isAgg4
  z4 := Tryz.sizeOf4
  v4 := Tryz.zeroValue4
  t22 := Tryz.underlying114
  a22 := Tryz.isAgg114
  z22 := Tryz.sizeOf114
  v22 := Tryz.zeroValue114
  a23 := Tryz.isAgg34
  z23 := Tryz.sizeOf34 }

/-- a slice's header -/
abbrev Hd := Option Addr × Nat × Nat
def Hd.val (h : Hd) : Value := .slice h.1 h.2.1 h.2.2
theorem hdOne : OneCell Hd.val := fun _ => rfl
theorem infoBox : (Tryz.prog.info? 34).map (fun i => (i.zero, i.size, i.bytes)) = some (some (.slice none 0 0), 1, 24) := by kernel_rfl
theorem bag_holds {α : Type} [Inhabited α] (enc : α → Value) {w : World} {g : Nat} {cur : Array Value} {e : TypeId} {ss : List α} (hb : w.heap[g]? = some (.cells cur e (0, 0))) (ht : cur.toList.take ss.length = ss.map enc) : Holds enc w g 0 ss.toArray := by
  intro j hj
  have hj' : j < ss.length := by simpa using hj
  refine ⟨?_, by simp [World.frozen?, hb]⟩
  have h1 : (cur.toList.take ss.length)[j]? = (ss.map enc)[j]? := by rw [ht]
  rw [List.getElem?_take_of_lt hj'] at h1
  simp only [World.cell?, hb, Nat.zero_add]
  simp only [Option.isSome_none, Bool.false_eq_true, if_false]
  rw [← Array.getElem?_toList, h1]
  simp [hj']
theorem bag_heap {α : Type} [Inhabited α] (enc : α → Value) {w : World} {g n : Nat} {cur : Array Value} {e : TypeId} {fr : Nat × Nat} (d : Array α) (hb : w.heap[g]? = some (.cells cur e fr)) :
    (putRow enc (Sort.ahead w n) g 0 d).heap[g]? = some (.cells (putCells enc 0 d cur) e fr) := by
  simp [putRow, mapBlock, Sort.ahead, Array.getElem?_modify, hb, onCells]
theorem bag_grown {α : Type} [Inhabited α] (enc : α → Value) {w : World} {g n : Nat} (d : Array α) : w.grownBy (putRow enc (Sort.ahead w n) g 0 d) (some g) := by
  refine ⟨rfl, rfl, rfl, by simp, fun k hk hne => ?_⟩
  have : g ≠ k := fun e => hne (by rw [e])
  simp [putRow, mapBlock, Sort.ahead, Array.getElem?_modify, this]
theorem bag_take {α : Type} [Inhabited α] (enc : α → Value) (cur : Array Value) (ts : List α) (m : Nat) (hm : m ≤ ts.length) (h : ts.length ≤ cur.size) : (putCells enc 0 ts.toArray cur).toList.take m = (ts.take m).map enc := by
  apply List.ext_getElem?
  intro j
  by_cases hj : j < m
  · rw [List.getElem?_take_of_lt hj, Array.getElem?_toList, List.getElem?_map, List.getElem?_take_of_lt hj]
    have h1 : j < ts.length := by omega
    simp [putCells, h1, show j < cur.size by omega]
  · rw [List.getElem?_take_eq_none (by omega), List.getElem?_eq_none (by simp; omega)]
set_option maxRecDepth 100000 in
theorem del_any (base g cap : Nat) (xs : List Hd) (w : World) (h : w.ownsRow base 34 1 (.slice (some ⟨g, 0, none⟩) xs.length cap) xs.length (xs.map Hd.val)) (i : Nat) (hi : i < xs.length) :
    Calls Tryz.prog 82 #[.slice (some ⟨g, 0, none⟩) xs.length cap, .int .i64 i, .int .i64 (i + 1 : Nat)] w fun e w' => e = .returned (.slice (some ⟨g, 0, none⟩) (xs.length - 1) cap) ∧
      w'.ownsRow base 34 1 (.slice (some ⟨g, 0, none⟩) (xs.length - 1) cap) (xs.length - 1) ((xs.eraseIdx i).map Hd.val) ∧ w.grownBy w' (some g) := by
  obtain ⟨i0, hi0, hz0, hz1, hz2⟩ := info_parts infoBox
  rcases h.2 with ⟨e, _⟩ | ⟨g', cap', cur, e, hbase, hb, h1, h2, h3, h4⟩
  · cases e
  cases e
  rw [Nat.mul_one] at h3 h4
  have hH := bag_holds Hd.val hb h4
  have key := AnyE.slices_Delete delLays Hd.val hdOne (none, 0, 0) (fun w => Tryz.zeroValue34 w) i0 hi0 hz1 g 0 cap i (i + 1) xs.toArray w hH (by simpa using h1) (by unfold maxLen at h2; exact h2) (Nat.le_succ i) (by simp; omega)
  have hsz : xs.toArray.size = xs.length := by simp
  rw [hsz, show i + 1 - i = 1 by omega] at key
  refine key.mono ?_
  rintro e w' ⟨rfl, q, rfl⟩
  have hl : (xs.take i ++ xs.drop (i + 1) ++ List.replicate 1 (none, 0, 0)).length = xs.length := by simp; omega
  refine ⟨rfl, ⟨by simp [List.length_eraseIdx, hi], .inr ⟨g, cap, _, rfl, hbase, bag_heap Hd.val _ hb, by omega, h2, by simp [putCells, h3], ?_⟩⟩, bag_grown Hd.val _⟩
  rw [Nat.mul_one, bag_take Hd.val cur _ _ (by rw [hl]; omega) (by rw [hl]; omega), List.eraseIdx_eq_take_drop_succ, List.take_append_of_le_length (by simp; omega), List.take_of_length_le (by simp; omega)]

/-- a piece of a block of colours -/
def PartC (w : World) (h : Hd) (t : List C4) : Prop := ∃ g off cap cur, h = (some ⟨g, off, none⟩, t.length, cap) ∧ t.length ≤ cap ∧ cap ≤ maxLen ∧ w.heap[g]? = some (.cells cur 38 (0, 0)) ∧ ∀ j u, (colRow t)[j]? = some u → cur[off + j]? = some u
theorem PartC.kept {w w' : World} {h : Hd} {t : List C4} {row : Option Nat} (hp : PartC w h t) (hg : w.grownBy w' row) (hne : ∀ g cur, w.heap[g]? = some (.cells cur 38 (0, 0)) → some g ≠ row) : PartC w' h t := by
  obtain ⟨g, off, cap, cur, h1, h2, h3, h4, h5⟩ := hp
  exact ⟨g, off, cap, cur, h1, h2, h3, grown_block hg h4 (hne g cur h4), h5⟩
theorem PartC.below {w w' : World} {h : Hd} {t : List C4} (hp : PartC w h t) (hb : Below w.heap.size w w') : PartC w' h t := hp.kept (grown_of_below hb) (fun _ _ _ e => by cases e)
theorem PartC.rd {w : World} {h : Hd} {t : List C4} (hp : PartC w h t) : ∃ g off cap, h = (some ⟨g, off, none⟩, t.length, cap) ∧ t.length ≤ cap ∧ cap ≤ maxLen ∧ RdC w (some ⟨g, off, none⟩) t := by
  obtain ⟨g, off, cap, cur, h1, h2, h3, h4, h5⟩ := hp
  refine ⟨g, off, cap, h1, h2, h3, .inr ⟨g, off, rfl, fun i hi => ?_⟩⟩
  have key : ∀ f u, f < 4 → (t.getD i C4.zero).cells[f]? = some u → w.cell? ⟨g, off + i * 4 + f, none⟩ = some u := by
    intro f u hf hu
    rw [cell_of_row w g _ _ _ (0, 0) h4, Nat.add_assoc]
    refine h5 (i * 4 + f) u ?_
    rw [colRow_get, show (i * 4 + f) / 4 = i by omega, show (i * 4 + f) % 4 = f by omega, List.getElem?_eq_getElem hi]
    rw [List.getD_eq_getElem?_getD, List.getElem?_eq_getElem hi] at hu
    exact hu
  exact ⟨key 0 _ (by decide) rfl, key 1 _ (by decide) rfl, key 2 _ (by decide) rfl, key 3 _ (by decide) rfl⟩
theorem colRow_take (t : List C4) (m : Nat) : colRow (t.take m) = (colRow t).take (m * 4) := by
  apply List.ext_getElem?
  intro i
  rw [colRow_get]
  rcases Nat.lt_or_ge i (m * 4) with h | h
  · rw [List.getElem?_take_of_lt h, List.getElem?_take_of_lt (by omega), colRow_get]
  · rw [List.getElem?_take_eq_none h, List.getElem?_take_eq_none (by omega)]
    rfl
theorem colRow_drop (t : List C4) (m : Nat) : colRow (t.drop m) = (colRow t).drop (m * 4) := by
  apply List.ext_getElem?
  intro i
  rw [colRow_get, List.getElem?_drop, List.getElem?_drop, colRow_get, show (m * 4 + i) / 4 = m + i / 4 by omega, show (m * 4 + i) % 4 = i % 4 by omega]
theorem OwnC.part {base : Nat} {w : World} {g cap : Nat} {t : List C4} (h : OwnC base w (.slice (some ⟨g, 0, none⟩) t.length cap) t) : PartC w (some ⟨g, 0, none⟩, t.length, cap) t := by
  rcases h.2 with ⟨e, _⟩ | ⟨g', cap', cur, e, hbase, hb, h1, h2, h3, h4⟩
  · cases e
  cases e
  refine ⟨g, 0, cap, cur, rfl, h1, h2, hb, fun j u hu => ?_⟩
  have hj : j < t.length * 4 := by rw [← colRow_length]; exact (List.getElem?_eq_some_iff.1 hu).1
  rw [← h4, List.getElem?_take_of_lt hj, Array.getElem?_toList] at hu
  rw [Nat.zero_add]
  exact hu
theorem PartC.take {w : World} {g off cap : Nat} {t : List C4} (h : PartC w (some ⟨g, off, none⟩, t.length, cap) t) (m : Nat) (hm : m ≤ t.length) : PartC w (some ⟨g, off, none⟩, m, cap) (t.take m) := by
  obtain ⟨g', off', cap', cur, h1, h2, h3, h4, h5⟩ := h
  cases h1
  refine ⟨g, off, cap, cur, by rw [List.length_take, Nat.min_eq_left hm], by rw [List.length_take]; omega, h3, h4, fun j u hu => ?_⟩
  rw [colRow_take] at hu
  have hj : j < m * 4 := by
    rcases Nat.lt_or_ge j (m * 4) with h | h
    · exact h
    · rw [List.getElem?_take_eq_none h] at hu
      cases hu
  rw [List.getElem?_take_of_lt hj] at hu
  exact h5 j u hu
theorem PartC.drop {w : World} {g off cap : Nat} {t : List C4} (h : PartC w (some ⟨g, off, none⟩, t.length, cap) t) (m : Nat) (hm : m ≤ t.length) : PartC w (some ⟨g, off + m * 4, none⟩, t.length - m, cap - m) (t.drop m) := by
  obtain ⟨g', off', cap', cur, h1, h2, h3, h4, h5⟩ := h
  cases h1
  refine ⟨g, off + m * 4, cap - m, cur, by rw [List.length_drop], by rw [List.length_drop]; omega, by omega, h4, fun j u hu => ?_⟩
  rw [colRow_drop, List.getElem?_drop] at hu
  rw [Nat.add_assoc]
  exact h5 _ u hu

/-! ### the bag -/
structure BagAt (base : Nat) (w : World) (bg : Nat) (v : Value) (xs : List (Hd × List C4)) : Prop where
  lies : base ≤ bg
  head : w.heap[bg]? = some (.cells #[v, .func (.func 51) #[] #[]] 116 (0, 0))
  row : w.ownsRow base 34 1 v xs.length ((xs.map (·.1)).map Hd.val)
  each : ∀ p ∈ xs, PartC w p.1 p.2
structure BagKeep (base : Nat) (w w' : World) : Prop where
  os : w'.os = w.os
  tape : w'.tape = w.tape
  output : w'.output = w.output
  size : w.heap.size ≤ w'.heap.size
  low : ∀ i, i < base → i < w.heap.size → w'.heap[i]? = w.heap[i]?
  oth : ∀ (i : Nat) (cs : Array Value) (t : TypeId), w.heap[i]? = some (.cells cs t (0, 0)) → t ≠ 34 → t ≠ 116 → w'.heap[i]? = some (.cells cs t (0, 0))
theorem BagKeep.refl (base : Nat) (w : World) : BagKeep base w w := ⟨rfl, rfl, rfl, Nat.le_refl _, fun _ _ _ => rfl, fun _ _ _ h _ _ => h⟩
theorem BagKeep.trans {base : Nat} {a b c : World} (h : BagKeep base a b) (k : BagKeep base b c) : BagKeep base a c :=
  ⟨k.os.trans h.os, k.tape.trans h.tape, k.output.trans h.output, Nat.le_trans h.size k.size, fun i h1 h2 => (k.low i h1 (Nat.lt_of_lt_of_le h2 h.size)).trans (h.low i h1 h2), fun i cs t h1 h2 h3 => k.oth i cs t (h.oth i cs t h1 h2 h3) h2 h3⟩
theorem BagKeep.of_below {base : Nat} {w w' : World} (h : Below w.heap.size w w') : BagKeep base w w' := ⟨h.os, h.tape, h.output, h.size, fun i _ h2 => h.block i h2, fun i _ _ h1 _ _ => (h.block i (block_lt h1)).trans h1⟩
theorem BagKeep.of_grown {base : Nat} {w w' : World} {row : Option Nat} (h : w.grownBy w' row) (hr : ∀ r, row = some r → base ≤ r ∧ ∀ (cs : Array Value) (t : TypeId), w.heap[r]? = some (.cells cs t (0, 0)) → t = 34 ∨ t = 116) : BagKeep base w w' := by
  refine ⟨h.os, h.tape, h.output, h.size, fun i h1 h2 => h.block i h2 ?_, fun i cs t h1 h2 h3 => grown_block h h1 ?_⟩
  · intro e
    have := (hr i e.symm).1
    omega
  · intro e
    rcases (hr i e.symm).2 cs t h1 with e1 | e1
    · exact h2 e1
    · exact h3 e1
theorem BagKeep.below {base : Nat} {w0 w w' : World} (h : BagKeep base w w') (h0 : Below w0.heap.size w0 w) (hb : w0.heap.size ≤ base) : Below w0.heap.size w0 w' :=
  ⟨h.os.trans h0.os, h.tape.trans h0.tape, h.output.trans h0.output, Nat.le_trans h0.size h.size, fun i hi => (h.low i (Nat.lt_of_lt_of_le hi hb) (Nat.lt_of_lt_of_le hi h0.size)).trans (h0.block i hi)⟩
theorem own_type {w : World} {base : Nat} {e : TypeId} {size : Nat} {v : Value} {n : Nat} {xs : List Value} (h : w.ownsRow base e size v n xs) : ∀ r, v.ownBlock = some r → base ≤ r ∧ ∀ (cs : Array Value) (t : TypeId), w.heap[r]? = some (.cells cs t (0, 0)) → t = e := by
  intro r hr
  refine ⟨(World.ownsRow.lt h r hr).1, fun cs t hc => ?_⟩
  rcases h.2 with ⟨rfl, _⟩ | ⟨g', cap', cur, rfl, _, hg, _⟩
  · cases hr
  · cases hr
    rw [hc] at hg
    simp only [Option.some.injEq, Obj.cells.injEq] at hg
    exact hg.2.1
theorem BagAt.below {base bg : Nat} {w w' : World} {v : Value} {xs : List (Hd × List C4)} (h : BagAt base w bg v xs) (hb : Below w.heap.size w w') : BagAt base w' bg v xs :=
  ⟨h.lies, (hb.block _ (block_lt h.head)).trans h.head, ownsRow_below h.row hb, fun p hp => (h.each p hp).below hb⟩
theorem BagAt.store {base bg : Nat} {w w9 : World} {v v9 : Value} {xs ys : List (Hd × List C4)} (h : BagAt base w bg v xs) (hg : w.grownBy w9 v.ownBlock) (ho : w9.ownsRow base 34 1 v9 ys.length ((ys.map (·.1)).map Hd.val)) (he : ∀ p ∈ ys, PartC w p.1 p.2) :
    BagAt base (w9.setCell ⟨bg, 0, none⟩ v9) bg v9 ys ∧ BagKeep base w (w9.setCell ⟨bg, 0, none⟩ v9) := by
  have hm := grown_block hg h.head (own_ne h.row h.head (by decide))
  have k := grownBy_setCell3 w9 bg 0 v9
  refine ⟨⟨h.lies, heap_setCell_same w9 bg 0 _ _ v9 hm, World.ownsRow.kept ho k (.inr fun e => own_ne ho hm (by decide) e.symm), fun p hp => ((he p hp).kept hg fun g cur hc => own_ne h.row hc (by decide)).kept k fun g cur hc e => ?_⟩, ?_⟩
  · cases Option.some.inj e
    rw [hm] at hc
    cases hc
  · refine (BagKeep.of_grown hg fun r e => ⟨(own_type h.row r e).1, fun cs t hc => .inl ((own_type h.row r e).2 cs t hc)⟩).trans (BagKeep.of_grown k fun r e => ?_)
    cases e
    refine ⟨h.lies, fun cs t hc => .inr ?_⟩
    rw [hm] at hc
    cases hc
    rfl
theorem run_append_box (w : World) (ty : TypeId) (base : Nat) (v : Value) (xs : List Hd) (x : Hd) (hown : w.ownsRow base 34 1 v xs.length (xs.map Hd.val)) (g : Nat)
    (hg : w.heap[g]? = some (.cells #[x.val] 34 (0, 0))) (hb : xs.length ≤ 1073741824) (hbase : base ≤ w.heap.size) :
    ∃ v' w', (Builtin.append_ #[114, 114] ty #[v, .slice (some ⟨g, 0, none⟩) 1 1]).run Tryz.prog w = .ok v' w' ∧ (w'.ownsRow base 34 1 v' (xs ++ [x]).length ((xs ++ [x]).map Hd.val) ∧ w.grownBy w' v.ownBlock) := by
  obtain ⟨i0, hi, hz0, hz1, hz2⟩ := info_parts infoBox
  obtain ⟨v', w', h1, h2, h3, _, h5⟩ := run_append_own_at (P := Tryz.prog) w base 114 ty 34 i0 _ 1 24 Tryz.underlying114 hi hz0 hz1 hz2 rfl (by decide) v xs.length _ hown ⟨g, 0, none⟩ 1 1 [x.val] rfl (by
    intro j u hu
    have h1 : (⟨g, 0, none⟩ : Addr).add j = ⟨g, j, none⟩ := by unfold Addr.add; split <;> simp_all
    rw [h1, cell_of_row w g j _ _ (0, 0) hg]
    simpa using hu) (by intro u hu; rw [List.mem_singleton.1 hu]; rfl) (by unfold maxLen; omega) (by omega) hbase
  exact ⟨v', w', h1, by rw [List.map_append, List.length_append]; exact h2, h3⟩
theorem weight_any (a : Option Addr) (n c : Nat) (w : World) : Calls Tryz.prog 51 #[.slice a n c] w fun e w' => e = .returned (.int .i64 (n : Nat)) ∧ w = w' := by
  go_enter Tryz.func51, Tryz.ntmps51
  go_wp2_with fail
  go_ret
  exact ⟨rfl, rfl⟩
def PutPost (base bg : Nat) (xs : List (Hd × List C4)) (w : World) (e : Ending) (w' : World) : Prop := e = .returned (.tuple #[]) ∧ ∃ v', BagAt base w' bg v' xs ∧ BagKeep base w w'
set_option maxRecDepth 100000 in
theorem bagPut_any (base bg : Nat) (v : Value) (xs : List (Hd × List C4)) (xa : Option Addr) (xn xc : Nat) (t : List C4) (w : World) (h : BagAt base w bg v xs) (hp : PartC w (xa, xn, xc) t) (hl : xs.length ≤ 65536) (hb : base ≤ w.heap.size) :
    Calls Tryz.prog 52 #[.pointer (some ⟨bg, 0, none⟩), .slice xa xn xc] w (PutPost base bg (xs ++ [((xa, xn, xc), t)]) w) := by
  have hc := (cell_of_row w _ 0 _ _ (0, 0) h.head).trans (show _ = some v from rfl)
  have H := Lib.hid h
  have HP := Lib.hid hp
  have hB1 : Below w.heap.size w (w.alloc (.cells #[Hd.val (xa, xn, xc)] 34)) := (Below.refl _ _).alloc (Nat.le_refl _) _
  have HB1 := Lib.hid hB1
  have HG1 := Lib.hid (heap_alloc_new w (.cells #[Hd.val (xa, xn, xc)] 34))
  have HR1 := Lib.hid (ownsRow_below h.row hB1)
  have HL1 : Hid (base ≤ (w.alloc (.cells #[Hd.val (xa, xn, xc)] 34)).heap.size) := Lib.hid (Nat.le_trans hb hB1.size)
  rw [show xs.length = (xs.map (·.1)).length by simp] at HR1
  have HH1 := Lib.hid ((hB1.block _ (block_lt h.head)).trans h.head)
  clear h hp hB1 hb
  unfold Hd.val at HB1 HG1 HH1 HL1
  dsimp only at HB1 HG1 HH1 HL1
  go_enter Tryz.func52, Tryz.ntmps52
  go_wp2_with (at_builtin; go_must (refine wpList_of_append rfl (.tmp 8) (.tmp 10) 114 114 rfl (run_append_box _ _ base v (xs.map (·.1)) (xa, xn, xc) HR1.out w.heap.size HG1.out (by simp; omega) HL1.out) ?_; rintro v9 w9 ⟨ho9, hg9⟩; obtain ⟨b9, c9, e9, _⟩ := own_form ho9 (by simp); subst e9; have HO9 := Lib.hid ho9; have HG9 := Lib.hid hg9; have hm9 := grown_block hg9 HH1.out (own_ne HR1.out HH1.out (by decide)); have HM9 := Lib.hid hm9; have k9 := (cell_of_row _ _ 0 _ _ (0, 0) hm9).trans (show _ = some v from rfl); have kf := frozen_of_row _ _ 0 _ _ hm9; clear ho9 hg9 hm9))
  refine bodyPost_end (results_none rfl _ _ _) rfl ?_
  have hst := (H.out.below HB1.out).store HG9.out (v9 := .slice (some ⟨b9, 0, none⟩) (xs.length + 1) c9) (ys := xs ++ [((xa, xn, xc), t)]) (by
    have := HO9.out
    simp only [List.length_append, List.length_map, List.length_singleton, List.map_append, List.map_cons, List.map_nil] at this ⊢
    exact this) (fun p hp => by
    rcases List.mem_append.1 hp with h | h
    · exact (H.out.each p h).below HB1.out
    · rw [List.mem_singleton.1 h]
      exact HP.out.below HB1.out)
  exact ⟨rfl, _, hst.1, (BagKeep.of_below HB1.out).trans hst.2⟩
def TakePost (base bg : Nat) (xs : List (Hd × List C4)) (w : World) (e : Ending) (w' : World) : Prop :=
  ∃ i p v', xs[i]? = some p ∧ (∀ q ∈ xs, q.2.length ≤ p.2.length) ∧ e = .returned p.1.val ∧ BagAt base w' bg v' (xs.eraseIdx i) ∧ BagKeep base w w'
theorem map_erase {α β : Type} (f : α → β) (l : List α) (k : Nat) : (l.map f).eraseIdx k = (l.eraseIdx k).map f := by rw [List.eraseIdx_eq_take_drop_succ, List.eraseIdx_eq_take_drop_succ, List.map_append, List.map_take, List.map_drop]
theorem bag_cell {base : Nat} {w : World} {g n cap : Nat} {xs : List Hd} (h : w.ownsRow base 34 1 (.slice (some ⟨g, 0, none⟩) n cap) n (xs.map Hd.val)) {i : Nat} {x : Hd} (hx : xs[i]? = some x) : w.cell? ⟨g, i, none⟩ = some x.val := by
  obtain ⟨a, c, e, _, _, h3⟩ := own_slice' h
  cases e
  rcases h3 with ⟨h4, _⟩ | ⟨g', e, h4⟩
  · have := h.1
    have := (List.getElem?_eq_some_iff.1 hx).1
    simp at *
    omega
  · cases e
    exact h4 i _ (by rw [List.getElem?_map, hx]; rfl)
set_option maxRecDepth 100000 in
set_option maxHeartbeats 1600000 in
theorem bagTake_any (base bg : Nat) (v : Value) (xs : List (Hd × List C4)) (w : World) (h : BagAt base w bg v xs) (hl : xs.length ≤ 65536) (h0 : 1 ≤ xs.length) :
    Calls Tryz.prog 53 #[.pointer (some ⟨bg, 0, none⟩)] w (TakePost base bg xs w) := by
  obtain ⟨g, cap, rfl, hcap⟩ := own_form h.row (by omega)
  obtain ⟨n, hn⟩ : ∃ n, xs.length = n := ⟨_, rfl⟩
  have hc0 := (cell_of_row w _ 0 _ _ (0, 0) h.head).trans (show _ = some (Value.slice (some ⟨g, 0, none⟩) xs.length cap) from rfl)
  have hc1 := (cell_of_row w _ 1 _ _ (0, 0) h.head).trans (show _ = some (Value.func (.func 51) #[] #[]) from rfl)
  have H := Lib.hid h
  have HN := Lib.hid hn
  rw [hn] at hc0 hcap h0 hl
  have HC0 := Lib.hid hc0
  have HC1 := Lib.hid hc1
  clear h hn hc1
  go_enter Tryz.func53, Tryz.ntmps53
  go_wp2_with fail
  go_loopg [3, 11] n (fun gk s3 s11 wr => ∃ (i at' : Nat), i ≤ n ∧ gk = n - i ∧ s3 = .int .i64 (at' : Nat) ∧ s11 = .int .i64 (i : Nat) ∧ at' < n ∧ (∀ j, j < i → ∀ p q, xs[j]? = some p → xs[at']? = some q → p.2.length ≤ q.2.length) ∧ Below w.heap.size w wr)
  case atStart => exact ⟨0, 0, Nat.zero_le _, rfl, by go_num, by go_num, by omega, fun j hj => by omega, Below.refl _ _⟩
  case round =>
    obtain ⟨i, at', hi, hgk, rfl, rfl, hat, hmost, hbw⟩ := hrel
    have HBW := Lib.hid hbw
    have HR := Lib.hid (H.out.below hbw)
    have Hg := Lib.hid hgk
    have HM := Lib.hid hmost
    clear hgk hmost hbw
    have hc0 := keep_cell HBW.out HC0.out
    obtain ⟨q, hq⟩ : ∃ q, xs[at']? = some q := ⟨_, List.getElem?_eq_getElem (by rw [HN.out]; exact hat)⟩
    have hqm := HR.out.each q (List.mem_of_getElem? hq)
    obtain ⟨ga, oa, ca, hqe, _, _, _⟩ := hqm.rd
    have hqx : (xs.map (·.1))[at']? = some q.1 := by rw [List.getElem?_map, hq]; rfl
    have hrow := HR.out.row
    rw [HN.out] at hrow
    have hcq := bag_cell hrow hqx
    rw [hqe] at hcq
    unfold Hd.val at hcq
    dsimp only at hcq
    have HQ := Lib.hid hq
    have HQE := Lib.hid hqe
    clear hqm hqx hq hqe
    by_cases hlt : i < n
    · obtain ⟨p, hp⟩ : ∃ q, xs[i]? = some q := ⟨_, List.getElem?_eq_getElem (by rw [HN.out]; exact hlt)⟩
      have hpm := HR.out.each p (List.mem_of_getElem? hp)
      obtain ⟨gi, oi, ci, hpe, _, _, _⟩ := hpm.rd
      have hpx : (xs.map (·.1))[i]? = some p.1 := by rw [List.getElem?_map, hp]; rfl
      have hcp := bag_cell hrow hpx
      rw [hpe] at hcp
      unfold Hd.val at hcp
      dsimp only at hcp
      have HP := Lib.hid hp
      clear hpm hpx hp hpe hrow
      have hc1 := keep_cell HBW.out HC1.out
      have hi1 : (i : Int) < (n : Int) := by omega
      have ha1 : (at' : Int) < (n : Int) := by omega
      obtain ⟨pl, hpl⟩ : ∃ m, p.2.length = m := ⟨_, rfl⟩
      obtain ⟨ql, hql⟩ : ∃ m, q.2.length = m := ⟨_, rfl⟩
      rw [hpl] at hcp
      rw [hql] at hcq
      have HPL := Lib.hid hpl
      have HQL := Lib.hid hql
      clear hpl hql
      go_upto_region 5 with (fail)
      refine wp_region_any (by kernel_rfl) ?_
      refine wpAny_laid_tails (D := fun i => ([14, 15, 16, 17, 18, 19, 20, 21, 22, 23, 24, 25, 26, 27, 28, 29, 30, 31, 32, 33, 34, 35, 36, 37] : List Nat).getD i 0)
        (R := fun rj v w' => match rj with
          | 0 => v = .pointer (some ⟨bg, 0, none⟩)
          | 1 => v = .pointer (some ⟨bg, 0, none⟩)
          | 2 => v = .pointer (some ⟨bg, 1, none⟩)
          | 3 => v = .func (.func 51) #[] #[]
          | 4 => v = .pointer (some ⟨bg, 0, none⟩)
          | 5 => v = .pointer (some ⟨bg, 0, none⟩)
          | 6 => v = .pointer (some ⟨bg, 0, none⟩)
          | 7 => v = .slice (some ⟨g, 0, none⟩) n cap
          | 8 => v = .int .i64 (i : Nat)
          | 9 => v = .pointer (some ⟨g, i, none⟩)
          | 10 => v = .slice (some ⟨gi, oi, none⟩) pl ci
          | 11 => v = .int .i64 (pl : Nat)
          | 12 => v = .pointer (some ⟨bg, 0, none⟩)
          | 13 => v = .pointer (some ⟨bg, 0, none⟩)
          | 14 => v = .pointer (some ⟨bg, 1, none⟩)
          | 15 => v = .func (.func 51) #[] #[]
          | 16 => v = .pointer (some ⟨bg, 0, none⟩)
          | 17 => v = .pointer (some ⟨bg, 0, none⟩)
          | 18 => v = .pointer (some ⟨bg, 0, none⟩)
          | 19 => v = .slice (some ⟨g, 0, none⟩) n cap
          | 20 => v = .int .i64 (at' : Nat)
          | 21 => v = .pointer (some ⟨g, at', none⟩)
          | 22 => v = .slice (some ⟨ga, oa, none⟩) ql ca
          | 23 => v = .int .i64 (ql : Nat)
          | _ => True)
        (S := fun a' w' => (a'.tmps[0]? = some (.pointer (some ⟨bg, 0, none⟩)) ∧ a'.tmps[3]? = some (.int .i64 (at' : Nat)) ∧ a'.tmps[4]? = some (.int .i64 (i : Nat))) ∧ Below wr.heap.size wr w')
        24 (by decide) (by kernel_rfl) (by decide +kernel) (by decide +kernel) (by decide +kernel) (by decide +kernel) (by kernel_rfl) ?_ ?_ ?_ ?_
      · intro i v u u' h hb
        match i, h with
        | 0, h => exact h
        | 1, h => exact h
        | 2, h => exact h
        | 3, h => exact h
        | 4, h => exact h
        | 5, h => exact h
        | 6, h => exact h
        | 7, h => exact h
        | 8, h => exact h
        | 9, h => exact h
        | 10, h => exact h
        | 11, h => exact h
        | 12, h => exact h
        | 13, h => exact h
        | 14, h => exact h
        | 15, h => exact h
        | 16, h => exact h
        | 17, h => exact h
        | 18, h => exact h
        | 19, h => exact h
        | 20, h => exact h
        | 21, h => exact h
        | 22, h => exact h
        | 23, h => exact h
        | i + 24, _ => trivial
      · intro a' u hb _ hold
        exact ⟨⟨hold 0 (by decide), hold 3 (by decide), hold 4 (by decide)⟩, hb⟩
      · refine ⟨?_, ?_, ?_, ?_, ?_, ?_, ?_, ?_, ?_, ?_, ?_, ?_, ?_, ?_, ?_, ?_, ?_, ?_, ?_, ?_, ?_, ?_, ?_, ?_, trivial⟩
        · intro a' u hS hd
          clear hd
          have g0 := hS.1.1
          go_simp
          exact ⟨_, rfl, rfl, Below.refl _ _⟩
        · intro a' u hS hd
          obtain ⟨_, e0, rfl⟩ := hd 0 (by kernel_rfl)
          have f0 : a'.tmps[14]? = some _ := e0
          clear e0
          clear hd
          go_simp
          exact ⟨_, rfl, rfl, Below.refl _ _⟩
        · intro a' u hS hd
          obtain ⟨_, e0, rfl⟩ := hd 1 (by kernel_rfl)
          have f0 : a'.tmps[15]? = some _ := e0
          clear e0
          clear hd
          go_simp
          exact ⟨_, rfl, rfl, Below.refl _ _⟩
        · intro a' u hS hd
          obtain ⟨_, e0, rfl⟩ := hd 2 (by kernel_rfl)
          have f0 : a'.tmps[16]? = some _ := e0
          clear e0
          clear hd
          have x0 := keep_cell hS.2 hc1
          go_simp
          exact ⟨_, rfl, rfl, Below.refl _ _⟩
        · intro a' u hS hd
          clear hd
          have g0 := hS.1.1
          go_simp
          exact ⟨_, rfl, rfl, Below.refl _ _⟩
        · intro a' u hS hd
          obtain ⟨_, e0, rfl⟩ := hd 4 (by kernel_rfl)
          have f0 : a'.tmps[18]? = some _ := e0
          clear e0
          clear hd
          go_simp
          exact ⟨_, rfl, rfl, Below.refl _ _⟩
        · intro a' u hS hd
          obtain ⟨_, e0, rfl⟩ := hd 5 (by kernel_rfl)
          have f0 : a'.tmps[19]? = some _ := e0
          clear e0
          clear hd
          go_simp
          exact ⟨_, rfl, rfl, Below.refl _ _⟩
        · intro a' u hS hd
          obtain ⟨_, e0, rfl⟩ := hd 6 (by kernel_rfl)
          have f0 : a'.tmps[20]? = some _ := e0
          clear e0
          clear hd
          have x0 := keep_cell hS.2 hc0
          go_simp
          exact ⟨_, rfl, rfl, Below.refl _ _⟩
        · intro a' u hS hd
          clear hd
          have g0 := hS.1.2.2
          go_simp
          exact ⟨_, rfl, rfl, Below.refl _ _⟩
        · intro a' u hS hd
          obtain ⟨_, e0, rfl⟩ := hd 7 (by kernel_rfl)
          have f0 : a'.tmps[21]? = some _ := e0
          clear e0
          obtain ⟨_, e1, rfl⟩ := hd 8 (by kernel_rfl)
          have f1 : a'.tmps[22]? = some _ := e1
          clear e1
          clear hd
          go_simp
          exact ⟨_, rfl, rfl, Below.refl _ _⟩
        · intro a' u hS hd
          obtain ⟨_, e0, rfl⟩ := hd 9 (by kernel_rfl)
          have f0 : a'.tmps[23]? = some _ := e0
          clear e0
          clear hd
          have x0 := keep_cell hS.2 hcp
          go_simp
          exact ⟨_, rfl, rfl, Below.refl _ _⟩
        · intro a' u hS hd
          obtain ⟨_, e0, rfl⟩ := hd 3 (by kernel_rfl)
          have f0 : a'.tmps[17]? = some _ := e0
          clear e0
          obtain ⟨_, e1, rfl⟩ := hd 10 (by kernel_rfl)
          have f1 : a'.tmps[24]? = some _ := e1
          clear e1
          clear hd
          go_simp
          refine (weight_any _ _ _ u).mono ?_
          rintro e u' ⟨rfl, rfl⟩
          exact ⟨_, rfl, rfl, Below.refl _ _⟩
        · intro a' u hS hd
          clear hd
          have g0 := hS.1.1
          go_simp
          exact ⟨_, rfl, rfl, Below.refl _ _⟩
        · intro a' u hS hd
          obtain ⟨_, e0, rfl⟩ := hd 12 (by kernel_rfl)
          have f0 : a'.tmps[26]? = some _ := e0
          clear e0
          clear hd
          go_simp
          exact ⟨_, rfl, rfl, Below.refl _ _⟩
        · intro a' u hS hd
          obtain ⟨_, e0, rfl⟩ := hd 13 (by kernel_rfl)
          have f0 : a'.tmps[27]? = some _ := e0
          clear e0
          clear hd
          go_simp
          exact ⟨_, rfl, rfl, Below.refl _ _⟩
        · intro a' u hS hd
          obtain ⟨_, e0, rfl⟩ := hd 14 (by kernel_rfl)
          have f0 : a'.tmps[28]? = some _ := e0
          clear e0
          clear hd
          have x0 := keep_cell hS.2 hc1
          go_simp
          exact ⟨_, rfl, rfl, Below.refl _ _⟩
        · intro a' u hS hd
          clear hd
          have g0 := hS.1.1
          go_simp
          exact ⟨_, rfl, rfl, Below.refl _ _⟩
        · intro a' u hS hd
          obtain ⟨_, e0, rfl⟩ := hd 16 (by kernel_rfl)
          have f0 : a'.tmps[30]? = some _ := e0
          clear e0
          clear hd
          go_simp
          exact ⟨_, rfl, rfl, Below.refl _ _⟩
        · intro a' u hS hd
          obtain ⟨_, e0, rfl⟩ := hd 17 (by kernel_rfl)
          have f0 : a'.tmps[31]? = some _ := e0
          clear e0
          clear hd
          go_simp
          exact ⟨_, rfl, rfl, Below.refl _ _⟩
        · intro a' u hS hd
          obtain ⟨_, e0, rfl⟩ := hd 18 (by kernel_rfl)
          have f0 : a'.tmps[32]? = some _ := e0
          clear e0
          clear hd
          have x0 := keep_cell hS.2 hc0
          go_simp
          exact ⟨_, rfl, rfl, Below.refl _ _⟩
        · intro a' u hS hd
          clear hd
          have g0 := hS.1.2.1
          go_simp
          exact ⟨_, rfl, rfl, Below.refl _ _⟩
        · intro a' u hS hd
          obtain ⟨_, e0, rfl⟩ := hd 19 (by kernel_rfl)
          have f0 : a'.tmps[33]? = some _ := e0
          clear e0
          obtain ⟨_, e1, rfl⟩ := hd 20 (by kernel_rfl)
          have f1 : a'.tmps[34]? = some _ := e1
          clear e1
          clear hd
          go_simp
          exact ⟨_, rfl, rfl, Below.refl _ _⟩
        · intro a' u hS hd
          obtain ⟨_, e0, rfl⟩ := hd 21 (by kernel_rfl)
          have f0 : a'.tmps[35]? = some _ := e0
          clear e0
          clear hd
          have x0 := keep_cell hS.2 hcq
          go_simp
          exact ⟨_, rfl, rfl, Below.refl _ _⟩
        · intro a' u hS hd
          obtain ⟨_, e0, rfl⟩ := hd 15 (by kernel_rfl)
          have f0 : a'.tmps[29]? = some _ := e0
          clear e0
          obtain ⟨_, e1, rfl⟩ := hd 22 (by kernel_rfl)
          have f1 : a'.tmps[36]? = some _ := e1
          clear e1
          clear hd
          go_simp
          refine (weight_any _ _ _ u).mono ?_
          rintro e u' ⟨rfl, rfl⟩
          exact ⟨_, rfl, rfl, Below.refl _ _⟩
      · intro a' u h
        obtain ⟨_, e25, rfl⟩ := h.new 11 (by decide) (by decide +kernel)
        replace e25 : a'.tmps[25]? = some (.int .i64 (pl : Nat)) := e25
        obtain ⟨_, e37, rfl⟩ := h.new 23 (by decide) (by decide +kernel)
        replace e37 : a'.tmps[37]? = some (.int .i64 (ql : Nat)) := e37
        have e0 : a'.tmps[0]? = some (.pointer (some ⟨bg, 0, none⟩)) := h.old 0 (by decide)
        have e2 : a'.tmps[2]? = some (.slice none 0 0) := h.old 2 (by decide)
        have e3 : a'.tmps[3]? = some (.int .i64 (at' : Nat)) := h.old 3 (by decide)
        have e4 : a'.tmps[4]? = some (.int .i64 (i : Nat)) := h.old 4 (by decide)
        have e10 : a'.tmps[10]? = some (.int .i64 (n : Nat)) := h.old 10 (by decide)
        have e11 : a'.tmps[11]? = some (.int .i64 (i : Nat)) := h.old 11 (by decide)
        have e1 : a'.tmps[1]? = some (undef) := h.old 1 (by decide)
        have e5 : a'.tmps[5]? = some (undef) := h.old 5 (by decide)
        have e6 : a'.tmps[6]? = some (.pointer (some ⟨bg, 0, none⟩)) := h.old 6 (by decide)
        have e7 : a'.tmps[7]? = some (.pointer (some ⟨bg, 0, none⟩)) := h.old 7 (by decide)
        have e8 : a'.tmps[8]? = some (.pointer (some ⟨bg, 0, none⟩)) := h.old 8 (by decide)
        have e9 : a'.tmps[9]? = some (.slice (some ⟨g, 0, none⟩) n cap) := h.old 9 (by decide)
        have e41 : a'.tmps[41]? = some (undef) := h.old 41 (by decide)
        have e42 : a'.tmps[42]? = some (undef) := h.old 42 (by decide)
        have e43 : a'.tmps[43]? = some (undef) := h.old 43 (by decide)
        have e44 : a'.tmps[44]? = some (undef) := h.old 44 (by decide)
        have e45 : a'.tmps[45]? = some (undef) := h.old 45 (by decide)
        have e46 : a'.tmps[46]? = some (undef) := h.old 46 (by decide)
        have e47 : a'.tmps[47]? = some (undef) := h.old 47 (by decide)
        have e48 : a'.tmps[48]? = some (undef) := h.old 48 (by decide)
        have e49 : a'.tmps[49]? = some (undef) := h.old 49 (by decide)
        have e50 : a'.tmps[50]? = some (undef) := h.old 50 (by decide)
        have e51 : a'.tmps[51]? = some (undef) := h.old 51 (by decide)
        have e52 : a'.tmps[52]? = some (undef) := h.old 52 (by decide)
        have e53 : a'.tmps[53]? = some (undef) := h.old 53 (by decide)
        have e54 : a'.tmps[54]? = some (undef) := h.old 54 (by decide)
        have e55 : a'.tmps[55]? = some (undef) := h.old 55 (by decide)
        have e56 : a'.tmps[56]? = some (undef) := h.old 56 (by decide)
        have e57 : a'.tmps[57]? = some (undef) := h.old 57 (by decide)
        have e58 : a'.tmps[58]? = some (undef) := h.old 58 (by decide)
        have e59 : a'.tmps[59]? = some (undef) := h.old 59 (by decide)
        have hsz : a'.tmps.size = 60 := h.size
        have hdf : a'.defers = [] := h.defers
        have hbu := h.below
        clear h
        obtain ⟨tmps, defers⟩ := a'
        simp only at hsz hdf e0 e2 e3 e4 e10 e11 e1 e5 e6 e7 e8 e9 e41 e42 e43 e44 e45 e46 e47 e48 e49 e50 e51 e52 e53 e54 e55 e56 e57 e58 e59 e25 e37
        subst hdf
        obtain ⟨ll⟩ := tmps
        match ll, hsz with
        | y0 :: y1 :: y2 :: y3 :: y4 :: y5 :: y6 :: y7 :: y8 :: y9 :: y10 :: y11 :: y12 :: y13 :: y14 :: y15 :: y16 :: y17 :: y18 :: y19 :: y20 :: y21 :: y22 :: y23 :: y24 :: y25 :: y26 :: y27 :: y28 :: y29 :: y30 :: y31 :: y32 :: y33 :: y34 :: y35 :: y36 :: y37 :: y38 :: y39 :: y40 :: y41 :: y42 :: y43 :: y44 :: y45 :: y46 :: y47 :: y48 :: y49 :: y50 :: y51 :: y52 :: y53 :: y54 :: y55 :: y56 :: y57 :: y58 :: y59 :: [], _ =>
          obtain rfl : y0 = .pointer (some ⟨bg, 0, none⟩) := by simpa using e0
          obtain rfl : y2 = .slice none 0 0 := by simpa using e2
          obtain rfl : y3 = .int .i64 (at' : Nat) := by simpa using e3
          obtain rfl : y4 = .int .i64 (i : Nat) := by simpa using e4
          obtain rfl : y10 = .int .i64 (n : Nat) := by simpa using e10
          obtain rfl : y11 = .int .i64 (i : Nat) := by simpa using e11
          obtain rfl : y1 = undef := by simpa using e1
          obtain rfl : y5 = undef := by simpa using e5
          obtain rfl : y6 = .pointer (some ⟨bg, 0, none⟩) := by simpa using e6
          obtain rfl : y7 = .pointer (some ⟨bg, 0, none⟩) := by simpa using e7
          obtain rfl : y8 = .pointer (some ⟨bg, 0, none⟩) := by simpa using e8
          obtain rfl : y9 = .slice (some ⟨g, 0, none⟩) n cap := by simpa using e9
          obtain rfl : y41 = undef := by simpa using e41
          obtain rfl : y42 = undef := by simpa using e42
          obtain rfl : y43 = undef := by simpa using e43
          obtain rfl : y44 = undef := by simpa using e44
          obtain rfl : y45 = undef := by simpa using e45
          obtain rfl : y46 = undef := by simpa using e46
          obtain rfl : y47 = undef := by simpa using e47
          obtain rfl : y48 = undef := by simpa using e48
          obtain rfl : y49 = undef := by simpa using e49
          obtain rfl : y50 = undef := by simpa using e50
          obtain rfl : y51 = undef := by simpa using e51
          obtain rfl : y52 = undef := by simpa using e52
          obtain rfl : y53 = undef := by simpa using e53
          obtain rfl : y54 = undef := by simpa using e54
          obtain rfl : y55 = undef := by simpa using e55
          obtain rfl : y56 = undef := by simpa using e56
          obtain rfl : y57 = undef := by simpa using e57
          obtain rfl : y58 = undef := by simpa using e58
          obtain rfl : y59 = undef := by simpa using e59
          obtain rfl : y25 = .int .i64 (pl : Nat) := by simpa using e25
          obtain rfl : y37 = .int .i64 (ql : Nat) := by simpa using e37
          clear e0 e2 e3 e4 e10 e11 e1 e5 e6 e7 e8 e9 e41 e42 e43 e44 e45 e46 e47 e48 e49 e50 e51 e52 e53 e54 e55 e56 e57 e58 e59 e25 e37
          have HBU := Lib.hid (HBW.out.trans (hbu.mono HBW.out.size))
          clear hbu hc0 hc1 hcp hcq
          by_cases hgt : (ql : Int) < (pl : Int)
          · go_wp2_with fail
            go_roundg (n - (i + 1))
            case measure => have := Hg.out; omega
            case rel =>
              refine ⟨i + 1, i, by omega, rfl, rfl, by go_num, by omega, ?_, HBU.out⟩
              intro j hj a b ha hb
              have e1 : b = p := Option.some.inj (hb.symm.trans HP.out)
              subst e1
              rcases Nat.lt_or_ge j i with h | h
              · have := HM.out j h a q ha HQ.out
                have := HQL.out
                have := HPL.out
                omega
              · obtain rfl : j = i := by omega
                have e2 : a = b := Option.some.inj (ha.symm.trans HP.out)
                subst e2
                exact Nat.le_refl _
          · go_wp2_with fail
            go_roundg (n - (i + 1))
            case measure => have := Hg.out; omega
            case rel =>
              refine ⟨i + 1, at', by omega, rfl, rfl, by go_num, hat, ?_, HBU.out⟩
              intro j hj a b ha hb
              rcases Nat.lt_or_ge j i with h | h
              · exact HM.out j h a b ha hb
              · obtain rfl : j = i := by omega
                have e2 : a = p := Option.some.inj (ha.symm.trans HP.out)
                have e3 : b = q := Option.some.inj (hb.symm.trans HQ.out)
                subst e2
                subst e3
                have := HQL.out
                have := HPL.out
                omega
    · obtain rfl : i = n := by omega
      have hat1 : (at' : Int) < (i : Int) := by omega
      obtain ⟨ql, hql⟩ : ∃ m, q.2.length = m := ⟨_, rfl⟩
      rw [hql] at hcq
      have HQL := Lib.hid hql
      have hrow2 := HR.out.row
      rw [HN.out, show i = (xs.map (·.1)).length by rw [List.length_map, HN.out]] at hrow2
      have CD := Lib.hid (del_any base g cap (xs.map (·.1)) wr hrow2 at' (by rw [List.length_map, HN.out]; exact hat))
      rw [show (xs.map (·.1)).length = i by rw [List.length_map, HN.out]] at CD
      have hk1 : IntKind.i64.wrap ((at' : Int) + 1) = ((at' + 1 : Nat) : Int) := IntWalk.i64_in _ (by omega)
      clear hql hrow hrow2
      go_wp2_with fail
      refine CD.out.mono ?_
      rintro e w9 ⟨rfl, ho9, hg9⟩
      have hle : (xs.eraseIdx at').length = i - 1 := by rw [List.length_eraseIdx_of_lt (by rw [HN.out]; exact hat), HN.out]
      have hst := HR.out.store (v9 := .slice (some ⟨g, 0, none⟩) (i - 1) cap) (ys := xs.eraseIdx at') hg9 (by rw [hle, ← map_erase]; exact ho9) (fun p hp => HR.out.each p (List.mem_of_mem_eraseIdx hp))
      have HST := Lib.hid hst
      have hm9 := grown_block hg9 HR.out.head (by intro e; have := HR.out.row; rw [HN.out] at this; exact own_ne this HR.out.head (by decide) e)
      have k9 := (cell_of_row w9 _ 0 _ _ (0, 0) hm9).trans rfl
      have kf := frozen_of_row w9 _ 0 _ _ hm9
      clear ho9 hg9 hst hm9 CD hcq hc0
      go_wp2_with fail
      go_ret
      refine ⟨at', q, _, HQ.out, fun b hb => ?_, ?_, HST.out.1, (BagKeep.of_below HBW.out).trans HST.out.2⟩
      · obtain ⟨j, hj⟩ := List.mem_iff_getElem?.1 hb
        exact HM.out j (by have := (List.getElem?_eq_some_iff.1 hj).1; rw [HN.out] at this; exact this) b q hj HQ.out
      · rw [HQE.out, HQL.out]
        rfl
end Go.Proofs.YtioeifbobhdccaaGreatDoor
