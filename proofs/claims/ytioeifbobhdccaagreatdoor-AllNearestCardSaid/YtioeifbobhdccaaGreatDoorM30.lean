/- gif.Encode in plain lists. -/
import Derived.Test.YtioeifbobhdccaaGreatDoorM21
import Derived.Test.YtioeifbobhdccaaGreatDoorM28
import Derived.Test.YtioeifbobhdccaaGreatDoorM18
import Derived.Test.YtioeifbobhdccaaGreatDoorM29
import Derived.Test.YtioeifbobhdccaaGreatDoorM3
import Derived.Test.YtioeifbobhdccaaGreatDoorM14
import Derived.RangeFuncFrom
namespace Go.Proofs.YtioeifbobhdccaaGreatDoor
/-- whether one of the first k pixels is clear -/
def goneB (l : List Int) (k : Nat) : Bool := (List.range k).any fun j => decide ((pix l j).a < 32768)
theorem goneB_succ (l : List Int) (k : Nat) : goneB l (k + 1) = (goneB l k || decide ((pix l k).a < 32768)) := by simp [goneB, List.range_succ]
theorem goneB_false {l : List Int} {k : Nat} (h : goneB l k = false) {j : Nat} (hj : j < k) : 32768 ≤ (pix l j).a := by
  have h1 := (List.any_eq_false.1 h) j (List.mem_range.2 hj)
  simp only [decide_eq_true_eq] at h1
  omega
/-- a pixel's index -/
def encIdx (P0 : List C4) (c : C4) : Int := if c.a < 32768 then (P0.length : Int) else near P0 c.eight P0.length
def encP (g : Bool) (P0 : List C4) : List C4 := if g then P0 ++ [C4.zero] else P0
def encX (P0 : List C4) (l : List Int) (N : Nat) : List Int := (cols l N).map (encIdx P0)
theorem encX_length (P0 : List C4) (l : List Int) (N : Nat) : (encX P0 l N).length = N := by simp [encX, cols]
theorem none_solid {P0 : List C4} {z : Int} (h8 : all8 P0) (h : NoneAt P0 z) : z = -1 := by
  rcases h with ⟨h, _⟩ | ⟨j, c, _, h1, h2, _⟩
  · exact h
  · have := (h8 c (List.mem_of_getElem? h1)).2.2.2
    omega
theorem none_clear {P0 : List C4} {z : Int} (h8 : all8 P0) (h : NoneAt (P0 ++ [C4.zero]) z) : z = P0.length := by
  rcases h with ⟨_, h⟩ | ⟨j, c, h0, h1, h2, h3⟩
  · exact absurd rfl (h C4.zero (by simp))
  · rcases Nat.lt_trichotomy j P0.length with hj | hj | hj
    · rw [List.getElem?_append_left hj] at h1
      have := (h8 c (List.mem_of_getElem? h1)).2.2.2
      omega
    · rw [h0, hj]
    · have := (List.getElem?_eq_some_iff.1 h1).1
      simp at this
      omega
theorem encX_plain {P0 : List C4} {z : Int} {l : List Int} {N : Nat} (h8 : all8 P0) (h : NoneAt P0 z) (hg : goneB l N = false) : idxs P0 z (cols l N) = encX P0 l N := by
  have hz := none_solid h8 h
  unfold idxs encX
  refine List.map_congr_left fun c hc => ?_
  obtain ⟨k, hk, rfl⟩ := cols_mem.1 hc
  have := goneB_false hg hk
  unfold idxOf encIdx
  rw [if_neg (by omega), if_neg (by omega)]
/-- the first i of one list, the rest of another -/
def mixL (X F : List Int) (i : Nat) : List Int := X.take i ++ F.drop i
theorem mixL_zero (X F : List Int) : mixL X F 0 = F := by simp [mixL]
theorem mixL_all {X F : List Int} {N : Nat} (hX : X.length = N) (hF : F.length = N) : mixL X F N = X := by
  unfold mixL
  rw [List.take_of_length_le (by omega), List.drop_eq_nil_of_le (by omega), List.append_nil]
theorem mixL_length {X F : List Int} {N i : Nat} (hX : X.length = N) (hF : F.length = N) (hi : i ≤ N) : (mixL X F i).length = N := by
  simp [mixL, hX, hF]
  omega
theorem mixL_set {X F : List Int} {N i : Nat} (hX : X.length = N) (hF : F.length = N) (hi : i < N) : (mixL X F i).set i (X.getD i 0) = mixL X F (i + 1) := by
  unfold mixL
  have h1 : (X.take i).length = i := by simp; omega
  rw [List.set_append_right _ _ (by omega), h1, Nat.sub_self, List.drop_eq_getElem_cons (by omega : i < F.length), List.set_cons_zero, List.take_add_one, List.append_assoc, List.getD_eq_getElem?_getD, List.getElem?_eq_getElem (by omega : i < X.length)]
  rfl
theorem mixL_same {X F : List Int} {N i : Nat} (hX : X.length = N) (hF : F.length = N) (hi : i < N) (h : X.getD i 0 = F.getD i 0) : mixL X F i = mixL X F (i + 1) := by
  rw [← mixL_set hX hF hi, h]
  apply List.ext_getElem?
  intro j
  by_cases hj : i = j
  · subst hj
    rw [List.getElem?_set_self (by rw [mixL_length hX hF (by omega)]; exact hi)]
    unfold mixL
    rw [List.getElem?_append_right (by simp; omega)]
    have h1 : (X.take i).length = i := by simp; omega
    rw [h1, Nat.sub_self, List.getElem?_drop, List.getD_eq_getElem?_getD, Nat.add_zero, List.getElem?_eq_getElem (by omega : i < F.length)]
    rfl
  · rw [List.getElem?_set_ne hj]
theorem encX_get (P0 : List C4) {l : List Int} {N k : Nat} (hk : k < N) : (encX P0 l N).getD k 0 = encIdx P0 (pix l k) := by
  simp [encX, cols, List.getD_eq_getElem?_getD, hk]
theorem idxs_get (P : List C4) (z : Int) {l : List Int} {N k : Nat} (hk : k < N) : (idxs P z (cols l N)).getD k 0 = idxOf P z (pix l k) := by
  simp [idxs, cols, List.getD_eq_getElem?_getD, hk]
theorem encIdx_range (P0 : List C4) (c : C4) (h : 32768 ≤ c.a → P0 ≠ []) : 0 ≤ encIdx P0 c ∧ encIdx P0 c ≤ P0.length ∧ (32768 ≤ c.a → encIdx P0 c < P0.length) := by
  unfold encIdx
  have h1 := near_range P0 c.eight P0.length
  split
  · omega
  · have h2 : 0 < P0.length := List.length_pos_iff.2 (h (by omega))
    omega
/-! ### the file -/
def palB (P : List C4) (i : Nat) : List Int := (if i < P.length ∧ (P.getD i C4.zero).a ≠ 0 then P.getD i C4.zero else P.getD 0 C4.zero) |> fun c => [c.r / 256, c.g / 256, c.b / 256]
def palBytes (P : List C4) (s : Nat) : List Int := (List.range s).flatMap (palB P)
theorem palBytes_succ (P : List C4) (s : Nat) : palBytes P (s + 1) = palBytes P s ++ palB P s := by simp [palBytes, List.range_succ]
theorem palBytes_length (P : List C4) : ∀ s, (palBytes P s).length = 3 * s
  | 0 => rfl
  | s + 1 => by
    rw [palBytes_succ, List.length_append, palBytes_length P s]
    simp only [palB, List.length_cons, List.length_nil]
    omega
def subAt (d : List Int) (k : Nat) : List Int := (d.drop (255 * k)).take 255
def subs (d : List Int) (k : Nat) : List Int := (List.range k).flatMap fun j => ((subAt d j).length : Int) :: subAt d j
def gifHead (W H sz : Nat) (P : List C4) : List Int := [71, 73, 70, 56, 57, 97] ++ two W ++ two H ++ [127 + (sz : Int), 0, 0] ++ palBytes P (2 ^ sz)
def gifClear (g : Bool) (n : Nat) : List Int := if g then [33, 249, 4, 1, 0, 0, (n : Int) - 1, 0] else []
def gifFile (W H sz : Nat) (g : Bool) (P0 : List C4) (d : List Int) : List Int :=
  gifHead W H sz (encP g P0) ++ gifClear g (encP g P0).length ++ [44, 0, 0, 0, 0] ++ two W ++ two H ++ [0, ((max sz 2 : Nat) : Int)] ++ subs d ((d.length + 254) / 255) ++ [0, 59]
end Go.Proofs.YtioeifbobhdccaaGreatDoor
/- A row of bytes behind a box that grows by pieces of another row. -/
namespace Go.Proofs.YtioeifbobhdccaaGreatDoor
open Go.RowKit Go.Sort Go.Shelf Go.Maps
structure OutD (w : World) (base : Nat) (fix : List (Nat × Array Value × TypeId)) (ob : Nat) (db dg dn dc : Nat) (d : List Int) (L : List Int) (W : World) : Prop where
  out : OutI w base fix ob L W
  dat : W.ownsRow db 5 1 (.slice (some ⟨dg, 0, none⟩) dn dc) dn (d.map (Value.int .u8))
  ne : ∀ vo, W.heap[ob]? = some (.cells #[vo] 26 (0, 0)) → vo.ownBlock ≠ some dg
section
variable {w W W' u : World} {base : Nat} {fix : List (Nat × Array Value × TypeId)} {ob db dg dn dc : Nat} {d L : List Int} {vo : Value}
theorem OutD.own {row : Option Nat} (h : OutD w base fix ob db dg dn dc d L W) (hg : W.grownBy W' row) (hr : ∀ r, row = some r → w.heap.size ≤ r ∧ ∃ o : Obj, W.heap[r]? = some o ∧ o.isCells = false) : OutD w base fix ob db dg dn dc d L W' := by
  have hr' : ∀ r, row = some r → ∃ o : Obj, W.heap[r]? = some o ∧ o.isCells = false := fun r e => (hr r e).2
  obtain ⟨v1, hv1, _⟩ := h.out.box
  refine ⟨h.out.own hg hr, own_row hg hr' h.dat, fun v2 hv2 => ?_⟩
  have h1 := own_heap hg hr' hv1
  rw [h1] at hv2
  cases hv2
  exact h.ne _ hv1
theorem OutD.at_below (h : OutD w base fix ob db dg dn dc d L W) (hb : Below W.heap.size W W') : OutD w base fix ob db dg dn dc d L W' := h.own (grown_of_below hb) (fun r e => by cases e)
def OutDRun (w : World) (base : Nat) (fix : List (Nat × Array Value × TypeId)) (ob db dg dn dc : Nat) (d L : List Int) (vo : Value) (W : World) (v' : Value) (w2 : World) : Prop :=
  ∃ g n c, v' = .slice (some ⟨g, 0, none⟩) n c ∧ w2.heap[ob]? = some (.cells #[vo] 26 (0, 0)) ∧ OutD w base fix ob db dg dn dc d L (w2.setCell ⟨ob, 0, none⟩ v') ∧ KeepsOthers W (w2.setCell ⟨ob, 0, none⟩ v')
/-- what an append, or two, leave -/
theorem OutD.laid {w2 : World} {v' : Value} {L' : List Int} (hA : OutAt w base fix ob) (h : OutD w base fix ob db dg dn dc d L W) (ho : W.heap[ob]? = some (.cells #[vo] 26 (0, 0))) (hu : Below W.heap.size W u) (hg : u.grownBy w2 vo.ownBlock)
    (hown : w2.ownsRow base 5 1 v' L'.length (L'.map (Value.int .u8))) (hl : 0 < L'.length) (hv : v'.ownBlock = vo.ownBlock ∨ ∃ j, v'.ownBlock = some j ∧ W.heap.size ≤ j) : OutDRun w base fix ob db dg dn dc d L' vo W v' w2 := by
  obtain ⟨vo', ho', hr⟩ := h.out.box
  rw [ho] at ho'
  cases ho'
  obtain ⟨g, cp, rfl, _⟩ := own_form hown hl
  obtain ⟨h4, h5, h6⟩ := h.out.app hA ho hr hu hg hown
  have hd1 := ownsRow_below h.dat hu
  have hne := h.ne vo ho
  have hd2 := World.ownsRow.kept hd1 hg (.inr (Ne.symm hne))
  have k := grownBy_setCell3 w2 ob 0 (.slice (some ⟨g, 0, none⟩) L'.length cp)
  refine ⟨g, _, cp, rfl, h4, ⟨h5, World.ownsRow.kept hd2 k (.inr fun e => own_ne hd2 h4 (by decide) e.symm), fun v2 hv2 => ?_⟩, h6⟩
  rw [heap_setCell_same w2 ob 0 _ _ _ h4] at hv2
  have e : v2 = .slice (some ⟨g, 0, none⟩) L'.length cp := by
    simp at hv2
    exact hv2.symm
  subst e
  rcases hv with hv | ⟨j, hv, hj⟩
  · rw [hv]
    exact hne
  · rw [hv]
    intro e
    have h1 := (World.ownsRow.lt h.dat dg rfl).2
    have h2 := Option.some.inj e
    omega
theorem outLitD (ty : TypeId) (hA : OutAt w base fix ob) (h : OutD w base fix ob db dg dn dc d L W) (ho : W.heap[ob]? = some (.cells #[vo] 26 (0, 0)))
    (arr : Array Value) (m : Nat) (x : List Int) (harr : arr = (x.map (Value.int .u8)).toArray) (hm : x.length = m) (hd : sm.Bytes x) (hm1 : 1 ≤ m) (hb : L.length + m ≤ 140737488355328) (hbw : base ≤ W.heap.size) (g0 : Nat) (hg0 : W.heap.size = g0) :
    ∃ v' w', (Builtin.append_ #[26, 26] ty #[vo, .slice (some ⟨g0, 0, none⟩) m m]).run Tryz.prog (W.alloc (.cells arr 5)) = .ok v' w' ∧ OutDRun w base fix ob db dg dn dc d (L ++ x) vo W v' w' := by
  subst harr
  subst hm
  subst hg0
  obtain ⟨vo', ho', hr⟩ := h.out.box
  rw [ho] at ho'
  cases ho'
  have hu : Below W.heap.size W (W.alloc (.cells (x.map (Value.int .u8)).toArray 5)) := (Below.refl _ _).alloc (Nat.le_refl _) _
  obtain ⟨v', w', h1, ⟨h2, h3⟩, h4⟩ := run_append_sl_at (W.alloc (.cells (x.map (Value.int .u8)).toArray 5)) ty base vo _ L (ownsRow_below hr hu) ⟨W.heap.size, 0, none⟩ _ _ x (sl_bytes W x 5 (0, 0) _ rfl (by unfold maxLen; omega) (wf_of_bytes hd)) hb (Nat.le_trans hbw hu.size)
  rw [show L.length + x.length = (L ++ x).length by rw [List.length_append]] at h2
  refine ⟨v', w', h1, h.laid hA ho hu h3 h2 (by rw [List.length_append]; omega) ?_⟩
  rcases h4 with h4 | h4
  · exact .inl h4
  · exact .inr ⟨_, h4, hu.size⟩
/-- a byte, then a piece of the other row -/
theorem outTwoD (ty ty2 : TypeId) (hA : OutAt w base fix ob) (h : OutD w base fix ob db dg dn dc d L W) (hdb : sm.Bytes d) (ho : W.heap[ob]? = some (.cells #[vo] 26 (0, 0)))
    (y : Int) (hy : 0 ≤ y ∧ y < 256) (k m : Nat) (hkm : k + m ≤ dn) (hb : L.length + 1 + m ≤ 140737488355328) (hbw : base ≤ W.heap.size) (g0 : Nat) (hg0 : W.heap.size = g0) :
    ∃ v1 w1, (Builtin.append_ #[26, 26] ty #[vo, .slice (some ⟨g0, 0, none⟩) 1 1]).run Tryz.prog (W.alloc (.cells #[.int .u8 y] 5)) = .ok v1 w1 ∧
      ∃ v2 w2, (Builtin.append_ #[26, 26] ty2 #[v1, .slice (some ⟨dg, 0 + k, none⟩) m m]).run Tryz.prog w1 = .ok v2 w2 ∧ OutDRun w base fix ob db dg dn dc d (L ++ [y] ++ (d.drop k).take m) vo W v2 w2 := by
  subst hg0
  obtain ⟨vo', ho', hr⟩ := h.out.box
  rw [ho] at ho'
  cases ho'
  have hu : Below W.heap.size W (W.alloc (.cells #[.int .u8 y] 5)) := (Below.refl _ _).alloc (Nat.le_refl _) _
  have hyb : sm.Bytes [y] := fun x hx => by rw [List.mem_singleton.1 hx]; exact hy
  obtain ⟨v1, w1, h1, ⟨h2, h3⟩, h4⟩ := run_append_sl_at (W.alloc (.cells #[.int .u8 y] 5)) ty base vo _ L (ownsRow_below hr hu) ⟨W.heap.size, 0, none⟩ _ _ [y] (sl_bytes W [y] 5 (0, 0) _ rfl (by unfold maxLen; simp) (wf_of_bytes hyb)) (by simp; omega) (Nat.le_trans hbw hu.size)
  rw [show L.length + [y].length = (L ++ [y]).length by rw [List.length_append]] at h2
  have hd1 := World.ownsRow.kept (ownsRow_below h.dat hu) h3 (.inr (Ne.symm (h.ne vo ho)))
  have hsl := (Fresh.sl hd1 (wf_of_bytes hdb)).part (m := k) (j := m) hkm
  have hs1 : base ≤ w1.heap.size := Nat.le_trans (Nat.le_trans hbw hu.size) h3.size
  obtain ⟨v2, w2, h5, ⟨h6, h7⟩, h8⟩ := run_append_sl_at w1 ty2 base v1 _ (L ++ [y]) h2 ⟨dg, 0 + k, none⟩ m m ((d.drop k).take m) hsl (by simp; omega) hs1
  have hlen := hsl.len
  have hll : (L ++ [y]).length + m = (L ++ [y] ++ (d.drop k).take m).length := by
    have h9 : ∀ a b : List Int, (a ++ b).length = a.length + b.length := fun a b => List.length_append
    rw [h9 (L ++ [y]), hlen]
  rw [hll] at h6
  refine ⟨v1, w1, h1, v2, w2, h5, h.laid hA ho hu (grown_new h3 h7 ?_) h6 (by rw [← hll, List.length_append]; simp; omega) ?_⟩
  · rcases h4 with h4 | h4
    · exact .inl h4
    · exact .inr ⟨_, h4, Nat.le_refl _⟩
  · rcases h8 with h8 | h8
    · rcases h4 with h4 | h4
      · exact .inl (h8.trans h4)
      · exact .inr ⟨_, h8.trans h4, hu.size⟩
    · exact .inr ⟨_, h8, Nat.le_trans hu.size h3.size⟩
end
end Go.Proofs.YtioeifbobhdccaaGreatDoor
/- The sub-blocks of a written GIF, and the last append of gif.Encode. -/
namespace Go.Proofs.YtioeifbobhdccaaGreatDoor
open Go.RowKit Go.Sort Go.Shelf Go.Maps
/-- the pieces that were met -/
def subsP {dn : Nat} (d : List Int) (pre : List (ChIx dn 255)) : List Int := pre.flatMap fun x => ((subAt d x.1).length : Int) :: subAt d x.1
theorem subsP_snoc {dn : Nat} {d : List Int} (hd : d.length = dn) (pre : List (ChIx dn 255)) (x : ChIx dn 255) {m : Nat} (hm : min 255 (dn - x.1 * 255) = m) :
    subsP d (pre ++ [x]) = subsP d pre ++ [(m : Int)] ++ (d.drop (x.1 * 255)).take m := by
  have h1 : subAt d x.1 = (d.drop (x.1 * 255)).take m := by
    unfold subAt
    have h0 : (d.drop (x.1 * 255)).length = dn - x.1 * 255 := by rw [List.length_drop, hd]
    rw [Nat.mul_comm, ← hm, ← h0, ← List.take_eq_take_min]
  have h2 : (subAt d x.1).length = m := by
    rw [h1, List.length_take, List.length_drop]
    omega
  unfold subsP
  rw [List.flatMap_append, List.flatMap_singleton, h2, h1, List.append_assoc]
  rfl
theorem subsP_len {dn : Nat} (d : List Int) (pre : List (ChIx dn 255)) : (subsP d pre).length ≤ 256 * pre.length := by
  induction pre with
  | nil => simp [subsP]
  | cons x l ih =>
    unfold subsP at *
    have h1 : (subAt d x.1).length ≤ 255 := by
      unfold subAt
      rw [List.length_take]
      omega
    simp only [List.flatMap_cons, List.length_append, List.length_cons]
    omega
theorem subsP_all {dn : Nat} (d : List Int) {ys : List (ChIx dn 255)} (h : ys.length = chunks dn 255) (hu : chunkUp dn 255 ys) : subsP d ys = subs d ((dn + 254) / 255) := by
  have h1 : (dn + 254) / 255 = ys.length := by rw [h]; rfl
  unfold subsP subs
  rw [h1, ← show ys.map (·.1) = List.range ys.length from hu, List.flatMap_map]
def OutEnd (w : World) (base : Nat) (L : List Int) (W : World) (v' : Value) (w' : World) : Prop :=
  w'.ownsRow base 5 1 v' L.length (L.map (Value.int .u8)) ∧ Below w.heap.size w w' ∧ KeepsOthers W w'
/-- an append that is handed back, not laid into the box -/
theorem outLast {w W : World} {base : Nat} {fix : List (Nat × Array Value × TypeId)} {ob : Nat} {L : List Int} {vo : Value} (ty : TypeId) (hA : OutAt w base fix ob) (h : OutI w base fix ob L W) (ho : W.heap[ob]? = some (.cells #[vo] 26 (0, 0)))
    (arr : Array Value) (m : Nat) (d : List Int) (harr : arr = (d.map (Value.int .u8)).toArray) (hm : d.length = m) (hd : sm.Bytes d) (hm1 : 1 ≤ m) (hb : L.length + m ≤ 140737488355328) (hbw : base ≤ W.heap.size) (g0 : Nat) (hg0 : W.heap.size = g0) :
    ∃ v' w', (Builtin.append_ #[26, 26] ty #[vo, .slice (some ⟨g0, 0, none⟩) m m]).run Tryz.prog (W.alloc (.cells arr 5)) = .ok v' w' ∧ OutEnd w base (L ++ d) W v' w' := by
  subst harr
  subst hm
  obtain ⟨vo', ho', hr⟩ := h.box
  rw [ho] at ho'
  cases ho'
  have hu : Below W.heap.size W (W.alloc (.cells (d.map (Value.int .u8)).toArray 5)) := (Below.refl _ _).alloc (Nat.le_refl _) _
  have hs := sl_bytes W d 5 (0, 0) g0 hg0 (by unfold maxLen; omega) (wf_of_bytes hd)
  obtain ⟨v', w', h1, ⟨h2, h3⟩, _⟩ := run_append_sl_at (W.alloc (.cells (d.map (Value.int .u8)).toArray 5)) ty base vo _ L (ownsRow_below hr hu) ⟨g0, 0, none⟩ d.length d.length d hs hb (Nat.le_trans hbw hu.size)
  rw [show L.length + d.length = (L ++ d).length by rw [List.length_append]] at h2
  have hb1 := h.below.trans (hu.mono h.below.size)
  refine ⟨_, _, h1, h2, hb1.grown h3 hb1.size (fun j e => by
      have := (World.ownsRow.lt hr j e).1
      have := hA.o2
      omega), ?_⟩
  refine (keepsOthers_below hu).trans (KeepsOthers.of_grownBy h3 fun j o e hj => ?_)
  rcases hr.2 with ⟨rfl, _⟩ | ⟨g1, cap1, cur, rfl, _, hgg, _⟩
  · cases e
  · cases e
    have := ((hu.block _ (block_lt hgg)).trans hgg).symm.trans hj
    cases this
    rfl
end Go.Proofs.YtioeifbobhdccaaGreatDoor
/- gif: the reader's bytes, the world behind it written out. -/
namespace Go.Proofs.YtioeifbobhdccaaGreatDoor
open Go.RowKit Go.Sort
def gr.BytesEx (g b off n cap k : Nat) (l : List Int) (w : World) (e : Ending) (w' : World) : Prop :=
  e = .returned (.slice (some ⟨b, off, none⟩) k cap) ∧ (∃ off', gr.At w' g b off' (n - k) (cap - k) (l.drop k) ∧ w.setCell ⟨g, 0, none⟩ (.slice (some ⟨b, off', none⟩) (n - k : Nat) (cap - k : Nat)) = w') ∧ w.grownBy w' (some g) ∧ Sl .u8 w' (some ⟨b, off, none⟩) k cap (l.take k)
set_option maxRecDepth 100000 in
theorem grBytes_ex (g b off n cap k : Nat) (l : List Int) (w : World) (h : gr.At w g b off n cap l) (hk : k ≤ n) :
    Calls Tryz.prog 24 #[.pointer (some ⟨g, 0, none⟩), .int .i64 k] w (gr.BytesEx g b off n cap k l w) := by
  have HH := Lib.hid h
  have c0 := (cell_of_row w _ 0 _ _ (0, 0) h.head).trans (show _ = some (Value.slice (some ⟨b, off, none⟩) n cap) from rfl)
  have f0 := frozen_of_row w _ 0 _ _ h.head
  have hfit := h.data.fits
  have hmost := h.data.most
  unfold maxLen at hmost
  have hk1 : ¬ ((n : Int) < (k : Int)) := by omega
  have hk2 : (k : Int) ≤ (n : Int) := by omega
  have hk3 : (k : Int) ≤ (cap : Int) := by omega
  have HNE := Lib.hid h.apart
  clear h
  by_cases hck : cap = k
  · subst hck
    have hck' : ((cap : Int) - (cap : Int)) = 0 := by omega
    go_enter Tryz.func24, Tryz.ntmps24
    go_wp2_with fail
    go_ret
    have hg := grownBy_setCell3 w g 0 (.slice (some ⟨b, off, none⟩) 0 0)
    have hd := HH.out.data.kept hg (by intro e; exact HNE.out (Option.some.inj e))
    have hnk : n = cap := by omega
    have hl : l.drop cap = [] := List.drop_eq_nil_of_le (by rw [HH.out.data.len, hnk]; exact Nat.le_refl _)
    have h00 : n - cap = 0 := by omega
    have hem : Sl .u8 (w.setCell { block := g, off := 0 } (Value.slice (some { block := b, off := off }) 0 0)) (some ⟨b, off, none⟩) 0 0 [] :=
      ⟨rfl, Nat.le_refl _, by unfold maxLen; omega, (fun e => by cases e), (fun x hx => by cases hx), .inl rfl⟩
    have hat : gr.At (w.setCell { block := g, off := 0 } (Value.slice (some { block := b, off := off }) 0 0)) g b off (n - cap) (cap - cap) (l.drop cap) := by
      rw [h00, Nat.sub_self, hl]
      exact ⟨heap_setCell_same w g 0 _ _ _ HH.out.head, hem, HNE.out⟩
    refine ⟨rfl, ⟨off, hat, ?_⟩, hg, hd.take hk⟩
    rw [h00, Nat.sub_self]
  · go_enter Tryz.func24, Tryz.ntmps24
    go_wp2_with fail
    go_ret
    have hg := grownBy_setCell3 w g 0 (.slice (some ⟨b, off + k, none⟩) (n - k) (cap - k))
    have hd := HH.out.data.kept hg (by intro e; exact HNE.out (Option.some.inj e))
    exact ⟨rfl, ⟨off + k, ⟨heap_setCell_same w g 0 _ _ _ HH.out.head, hd.drop hk, HNE.out⟩, rfl⟩, hg, hd.take hk⟩
end Go.Proofs.YtioeifbobhdccaaGreatDoor
/- A range over a function with one variable: the frame of a round told by what is laid into the loop's own frame. -/
namespace Go.Proofs.YtioeifbobhdccaaGreatDoor
open Go.RowKit
/-- the frame of a round -/
def setTwo (a : Act) (p t : Nat) (v : Value) : Act := { tmps := (a.tmps.setIfInBounds p v).setIfInBounds t v, defers := [] }
theorem wpIn_rangeFunc_set {F : Fence} {n : Nat} {P : Program} {α : Type} {g : Operand} {ps : Array Tmp} {assign body : Code} {Q : Exit → Act → World → Prop} {a : Act} {w : World} (p t : Nat) (val : α → Value)
    (hro : F.round = none) (h1 : 1 ≤ n) {gf : Nat} {lb : Array Value} (hg : a.eval g = .func (.func gf) #[] lb) (hFg : F.fn gf) (eg : ∀ args w, (callFunc gf args).run P w = .ok (.enter gf args) w)
    {Kp : World → World → Prop} {S Sp : List α → Prop} {N : Nat} {w0 : World} (hseq : SeqStopsK F (n - 1) P gf lb (fun x => #[val x]) Kp S Sp N w0)
    (hKt : ∀ {A B C : World}, Kp A B → Kp B C → Kp A C) (hKb : ∀ (W : World) (l : Nat) (o o' : Obj), w.heap.size ≤ l → W.heap[l]? = some o → o.isCells = false → o.isWalk = false → Kp W (W.putObj l o')) (hb0 : Below w0.heap.size w0 w) (hps : ps = #[p])
    (I : List α → World → Prop) (hI : OwnFrom w.heap.size I) (h0 : I [] w)
    (hassign : ∀ (l : Nat) (x : α) (W : World) (K : Act → World → Prop), K (setTwo a p t (val x)) W →
      assign.wpIn (F.inRound l) (n - 1 - 1) P (Exit.then K (fun _ _ _ => False)) { tmps := a.tmps.setIfInBounds p (val x), defers := [] } W)
    (hbody : ∀ (l : Nat) (pre : List α) (x : α) (W : World), I pre W → pre.length < N → body.wpIn (F.inRound l) (n - 1 - 1) P (ownPostK Kp I (fun _ _ _ => False) (pre ++ [x]) W) (setTwo a p t (val x)) W)
    (hdone : ∀ (D : Nat) (xs : List α) (W : World), w.heap.size ≤ D → S xs → I xs W → W.heap[D]? = some (.deferred (some [])) → Q .normal { a with defers := { target := .collected D, args := #[] } :: a.defers } W) :
    (Code.rangeFunc g ps assign body).wpIn F n P Q a w := by
  subst hps
  exact wpIn_rangeFunc_ownF hro h1 hg hFg eg hseq hKt hKb hb0 (fun _ => rfl) I (fun _ _ _ => False) hI (fun _ _ _ _ _ hs _ _ => hs) h0 (fun x => setTwo a p t (val x)) (fun l x W K hK => by simpa using hassign l x W K hK) hbody hdone (fun _ _ _ _ _ _ h _ => h.elim)
end Go.Proofs.YtioeifbobhdccaaGreatDoor
