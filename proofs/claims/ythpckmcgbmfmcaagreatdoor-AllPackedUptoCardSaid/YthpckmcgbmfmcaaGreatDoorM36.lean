/- Texts of this claim, joined. -/
import Derived.Test.YthpckmcgbmfmcaaGreatDoorM28
import Derived.WideKeyEntry
set_option maxRecDepth 100000
set_option maxHeartbeats 12800000
namespace Go.Proofs.YthpckmcgbmfmcaaGreatDoor
open Go.RowKit Go.Sort Go.Maps Go.WideElems Go.MapKept Go.ChangeMaps
def key3 (a b c : Int) : Value := .agg #[.int .u8 a, .int .u8 b, .int .u8 c]
theorem row_3 : 173 < Tryz.prog.types.size := of_decide_eq_true (by kernel_rfl)
theorem law_3 : Go.WideMaps.KeyLaw Tryz.prog 173 := deep_law_laid laidOut (m := 3) (by omega) row_3 (by kernel_rfl) (by kernel_rfl)
theorem keyOf_3 {a b c : Int} (ha : 0 <= a /\ a < 256) (hb : 0 <= b /\ b < 256) (hc : 0 <= c /\ c < 256) : keyOf Tryz.prog 173 (key3 a b c) = some (.string (keyBytes [.int .u8 a, .int .u8 b, .int .u8 c])) := by
 have wf : ∀ v : Int, 0 <= v /\ v < 256 -> (Lit.int .u8 v).wf = true := by
  intro v hv;simp [Lit.wf, IntKind.min, IntKind.max, IntKind.bits, IntKind.signed];omega
 have h1 : Tryz.prog.keyType 173 = true := by kernel_rfl
 have h2 : Tryz.prog.cellsOf 173 = 3 := by kernel_rfl
 have h3 : Tryz.prog.cellsOf 5 = 1 := by kernel_rfl
 have hu := Tryz.underlying173;obtain ⟨m, hm⟩ := types_size;have e1 : ∀ v : Int, (Lit.int .u8 v).wf = true -> Tryz.prog.keyLits (m + 2) 5 [.int .u8 v] = some [.int .u8 v] := by
  intro v hv;unfold Program.keyLits;rw [show Tryz.prog.underlying 5 = some (.int .u8) from Tryz.underlying5];simp only;rw [if_pos ⟨trivial, hv⟩]
 unfold keyOf key3;simp only [hu];rw [if_pos (by simp [h1, Value.formed, hu, h2]), hm];unfold Program.keyLits;simp only [hu, Value.cells];rw [h3, show List.range 3 = [0, 1, 2] from rfl];simp [List.mapM_cons, List.mapM_nil, h2, e1 _ (wf _ ha), e1 _ (wf _ hb), e1 _ (wf _ hc)]
section
variable {P : Program} {t k e : TypeId} {w : World} {b : Nat} {es : Array MapEntry} {clock : Nat}
theorem entry_law (K : Go.WideMaps.KeyLaw P k) (ht : P.underlying t = some (.map k e)) {z : Value} (hz : ∀ u : World, (zeroValue e).run P u = .ok z u) (hb : w.heap[b]? = some (.map es clock)) (hs : Stamped es clock) (hk : ∀ x ∈ es.toList, ∃ l, keyOf P k x.key = some l)
  {key : Value} {kl : Lit} (hkey : keyOf P k key = some kl) :
  (∃ (es1 : Array MapEntry) (clock1 : Nat), es1.toList = es.toList ++ [⟨key, z, clock⟩] /\ (Instr.mapEntry t (.map (some b)) key).run P w = .ok (.tuple #[z, goInt clock]) (setBlock w b (.map es1 clock1)) /\ (∀ x ∈ es.toList, x.key ≠ key) /\
   ∀ (w2 : World) (val : Value), w2.heap[b]? = some (.map es1 clock1) -> ∃ es', es'.toList = es.toList ++ [⟨key, val, clock⟩] /\ (Instr.entryStore t (.map (some b)) (goInt clock) val).run P w2 = .ok () (setBlock w2 b (.map es' (clock + 1)))) \/
  ∃ j e0, es.toList[j]? = some e0 /\ e0.key = key /\ (Instr.mapEntry t (.map (some b)) key).run P w = .ok (.tuple #[e0.val, goInt e0.born]) (setBlock w b (.map es clock)) /\
   ∀ (w2 : World) (val : Value), w2.heap[b]? = some (.map es clock) -> ∃ es', es'.toList = es.toList.set j ⟨key, val, e0.born⟩ /\ (Instr.entryStore t (.map (some b)) (goInt e0.born) val).run P w2 = .ok () (setBlock w2 b (.map es' clock)) := by
 obtain ⟨s1, s2, _⟩ := hs;rcases K.find w hkey es.toList hk with ⟨h1, h2⟩ | ⟨j, e0, h1, h2, h3⟩
 ·refine .inl ⟨es.push ⟨key, z, clock⟩, clock + 1, by simp, ?_, h2, fun w2 val hw2 => ⟨es.push ⟨key, val, clock⟩, by simp, ?_⟩⟩
  ·simp [Instr.mapEntry, run_underlying ht, MapKept.run_getObj_map hb, K.check w false hkey, h1, hz, MapKept.run_setObj_map _ hb, Result.andThen, setBlock]
  ·have hidx : (es.push ⟨key, z, clock⟩).findIdx? (fun e => ((e.born : Nat) : Int) == ((clock : Nat) : Int)) = some es.size := by
    rw [findIdx_arr];have := findIdx_born (l := (es.push ⟨key, z, clock⟩).toList) (j := es.size) (e0 := ⟨key, z, clock⟩) (by
     simp only [Array.toList_push, List.map_append, List.map_cons, List.map_nil];refine List.nodup_append.2 ⟨s2, by simp, fun a ha c hc e1 => ?_⟩;simp only [List.mem_singleton] at hc;obtain ⟨x, hx, rfl⟩ := List.mem_map.1 ha;have := s1 x hx;omega) (by simp)
    exact this
   have hmod : (es.push ⟨key, z, clock⟩).modify es.size (fun e => { e with val := val }) = es.push ⟨key, val, clock⟩ := by
    apply Array.ext'
    rw [Array.toList_modify, Array.toList_push, Array.toList_push, <- Array.length_toList, modify_last]
   simp [Instr.entryStore, MapKept.run_getObj_map hw2, asInt, asIntOf, goInt, hidx, hmod, MapKept.run_setObj_map _ hw2, Result.andThen, setBlock]
 ·have hj : es[j]? = some e0 := by simpa using h2
  have hsame : es.modify j (fun e => { e with key := key }) = es := by
   apply Array.ext'
   rw [Array.toList_modify, modify_eq_set _ _ _ _ h2];have : ({ e0 with key := key } : MapEntry) = e0 := (by rw [<- h3]);rw [this];exact set_self _ _ _ h2
  refine .inr ⟨j, e0, h2, h3, ?_, fun w2 val hw2 => ⟨es.modify j (fun e' => { e' with val := val }), ?_, ?_⟩⟩
  ·simp [Instr.mapEntry, run_underlying ht, MapKept.run_getObj_map hb, K.check w false hkey, h1, hj, h3, K.stays w hkey, hsame, MapKept.run_setObj_map _ hb, Result.andThen, setBlock]
  ·rw [Array.toList_modify, modify_eq_set _ _ _ _ h2, <- h3]
  ·have hidx : es.findIdx? (fun e => ((e.born : Nat) : Int) == ((e0.born : Nat) : Int)) = some j := by
    rw [findIdx_arr];exact findIdx_born s2 h2
   simp [Instr.entryStore, MapKept.run_getObj_map hw2, asInt, asIntOf, goInt, hidx, MapKept.run_setObj_map _ hw2, Result.andThen, setBlock]
theorem lookup_law (K : Go.WideMaps.KeyLaw P k) (ht : P.underlying t = some (.map k e)) {z : Value} (hz : ∀ u : World, (zeroValue e).run P u = .ok z u) (hb : w.heap[b]? = some (.map es clock)) (hk : ∀ x ∈ es.toList, ∃ l, keyOf P k x.key = some l)
  {key : Value} {kl : Lit} (hkey : keyOf P k key = some kl) :
  (Instr.lookup t (.map (some b)) key false).run P w = .ok z w \/ ∃ e0 ∈ es.toList, e0.key = key /\ (Instr.lookup t (.map (some b)) key false).run P w = .ok e0.val w := by
 rcases K.find w hkey es.toList hk with ⟨h1, h2⟩ | ⟨j, e0, h1, h2, h3⟩
 ·exact .inl (by simp [Instr.lookup, run_underlying ht, MapKept.run_getObj_map hb, K.check w _ hkey, h1, hz, Result.andThen])
 ·exact .inr ⟨e0, List.mem_of_getElem? h2, h3, by simp [Instr.lookup, run_underlying ht, MapKept.run_getObj_map hb, K.check w _ hkey, h1, Result.andThen]⟩
end
def Row3 (base : Nat) (w : World) (l : List Int) (i : Nat) (x : MapEntry) : Prop :=
 ∃ (ls : List Nat) (a b c : Int), x.key = key3 a b c /\ ((0 <= a /\ a < 256) /\ (0 <= b /\ b < 256) /\ 0 <= c /\ c < 256) /\ OwnN base w x.val ls /\ ls.length <= i /\ ∀ p ∈ ls, p < i /\ p + 2 < l.length /\ l.getD p 0 = a /\ l.getD (p + 1) 0 = b /\ l.getD (p + 2) 0 = c
theorem Row3.mono {base : Nat} {w : World} {l : List Int} {i j : Nat} {x : MapEntry} (h : Row3 base w l i x) (hij : i <= j) : Row3 base w l j x := by
 obtain ⟨ls, a, b, c, h1, h2, h3, h4, h5⟩ := h;exact ⟨ls, a, b, c, h1, h2, h3, by omega, fun p hp => ⟨by have := (h5 p hp).1; omega, (h5 p hp).2⟩⟩
theorem Row3.grown {base : Nat} {w w' : World} {l : List Int} {i : Nat} {x : MapEntry} {ob : Option Nat} (h : Row3 base w l i x) (hg : w.grownBy w' ob) (hne : x.val.ownBlock = none \/ x.val.ownBlock ≠ ob) : Row3 base w' l i x := by
 obtain ⟨ls, a, b, c, h1, h2, h3, h4, h5⟩ := h;exact ⟨ls, a, b, c, h1, h2, World.ownsRow.kept h3 hg hne, h4, h5⟩
theorem Row3.key {base : Nat} {w : World} {l : List Int} {i : Nat} {x : MapEntry} (h : Row3 base w l i x) : ∃ kl, keyOf Tryz.prog 173 x.key = some kl := by
 obtain ⟨ls, a, b, c, h1, h2, _⟩ := h;rw [h1];exact ⟨_, keyOf_3 h2.1 h2.2.1 h2.2.2⟩
theorem Row3.block {base : Nat} {w : World} {l : List Int} {i : Nat} {x : MapEntry} (h : Row3 base w l i x) : ∀ g, x.val.ownBlock = some g -> g < w.heap.size /\ ∃ cur, w.heap[g]? = some (.cells cur 3 (0, 0)) := by
 intro g hg;obtain ⟨ls, a, b, c, h1, h2, h3, _⟩ := h;rcases h3.2 with ⟨h', _⟩ | ⟨g', cap, cur, h', h1, h2, _⟩
 ·rw [h'] at hg
  cases hg
 ·rw [h'] at hg
  obtain rfl : g' = g := Option.some.inj hg;exact ⟨block_lt h2, cur, h2⟩
def Apart (es : List MapEntry) : Prop := ∀ (i j : Nat) (x y : MapEntry), es[i]? = some x -> es[j]? = some y -> i ≠ j -> ∀ g, x.val.ownBlock = some g -> y.val.ownBlock ≠ some g
structure PMap (base B : Nat) (w : World) (l : List Int) (i : Nat) (es : List MapEntry) : Prop where
 at' : ∃ ea clock, w.heap[B]? = some (.map ea clock) /\ ea.toList = es /\ Stamped ea clock
 rows : ∀ x ∈ es, Row3 base w l i x
 apart : Apart es
 base : base <= w.heap.size
theorem PMap.grown {base B : Nat} {w w' : World} {l : List Int} {i : Nat} {es : List MapEntry} (h : PMap base B w l i es) {ob : Option Nat} (hg : w.grownBy w' ob) (hob : ∀ b, ob = some b -> ∃ cur t, w.heap[b]? = some (.cells cur t (0, 0)) /\ t ≠ 3) : PMap base B w' l i es := by
 obtain ⟨ea, clock, h1, h2, h3⟩ := h.at';refine ⟨⟨ea, clock, (hg.block B (block_lt h1) ?_).trans h1, h2, h3⟩, fun x hx => (h.rows x hx).grown hg ?_, h.apart, Nat.le_trans h.base hg.size⟩
 ·intro e
  obtain ⟨cur, t, h4, _⟩ := hob B e.symm;rw [h1] at h4;cases h4
 ·cases ho : x.val.ownBlock with
  | none => exact .inl rfl
  | some g =>
   refine .inr fun e => ?_
   obtain ⟨cur, t, h4, h5⟩ := hob g e.symm;obtain ⟨_, cur2, h6⟩ := (h.rows x hx).block g ho;exact ne_of_types h4 h6 h5 rfl
theorem PMap.below {base B : Nat} {w w' : World} {l : List Int} {i : Nat} {es : List MapEntry} (h : PMap base B w l i es) (hb : Below w.heap.size w w') : PMap base B w' l i es :=
 h.grown (grown_of_below hb) (fun _ e => by cases e)
theorem PMap.mono {base B : Nat} {w : World} {l : List Int} {i j : Nat} {es : List MapEntry} (h : PMap base B w l i es) (hij : i <= j) : PMap base B w l j es :=
 ⟨h.at', fun x hx => (h.rows x hx).mono hij, h.apart, h.base⟩
theorem zero_ints (u : World) : (zeroValue 59).run Tryz.prog u = .ok (.slice none 0 0) u := by kernel_rfl
theorem grown_setBlock (w : World) (b : Nat) (o : Obj) : w.grownBy (setBlock w b o) (some b) := by
 refine ⟨rfl, rfl, rfl, by simp [setBlock], fun j hj hne => ?_⟩;show (w.heap.setIfInBounds b o)[j]? = _;rw [Array.getElem?_setIfInBounds_ne (fun e => hne (by rw [e]))]
theorem heap_setBlock (w : World) (b : Nat) (o o' : Obj) (h : w.heap[b]? = some o') : (setBlock w b o).heap[b]? = some o := by
 show (w.heap.setIfInBounds b o)[b]? = _;rw [Array.getElem?_setIfInBounds_self_of_lt (block_lt h)]
theorem PMap.look {base B : Nat} {w : World} {l : List Int} {i : Nat} {es : List MapEntry} (h : PMap base B w l i es) {a b c : Int} (ha : 0 <= a /\ a < 256) (hb : 0 <= b /\ b < 256) (hc : 0 <= c /\ c < 256) :
  ∃ v ls, (Instr.lookup 172 (.map (some B)) (key3 a b c) false).run Tryz.prog w = .ok v w /\ OwnN base w v ls /\ ls.length <= i /\ ∀ p ∈ ls, p < i /\ p + 2 < l.length /\ l.getD p 0 = a /\ l.getD (p + 1) 0 = b /\ l.getD (p + 2) 0 = c := by
 obtain ⟨ea, clock, h1, h2, h3⟩ := h.at';rcases lookup_law law_3 Tryz.underlying172 zero_ints h1 (fun x hx => (h.rows x (by rw [<- h2]; exact hx)).key) (keyOf_3 ha hb hc) with h4 | ⟨e0, h4, h5, h6⟩
 ·exact ⟨_, [], h4, World.ownsRow_nil _ _ _ _, Nat.zero_le _, (fun _ h => by cases h)⟩
 ·obtain ⟨ls, a', b', c', r1, r2, r3, r4, r5⟩ := h.rows e0 (by rw [<- h2]; exact h4)
  rw [h5] at r1;unfold key3 at r1;simp only [Value.agg.injEq, Array.mk.injEq, List.cons.injEq, Value.int.injEq, true_and, and_true] at r1;obtain ⟨rfl, rfl, rfl⟩ := r1;exact ⟨_, ls, h6, r3, r4, r5⟩
theorem nodup_key {es : List MapEntry} (h : (es.map (·.key)).Nodup) {x y : MapEntry} (hx : x ∈ es) (hy : y ∈ es) (e : x.key = y.key) : x = y := by
 induction es with
 | nil => cases hx
 | cons a r ih =>
  simp only [List.map_cons, List.nodup_cons] at h;rcases List.mem_cons.1 hx with rfl | hx'
  ·rcases List.mem_cons.1 hy with rfl | hy'
   ·rfl
   ·exact absurd (List.mem_map.2 ⟨y, hy', e.symm⟩) h.1
  ·rcases List.mem_cons.1 hy with rfl | hy'
   ·exact absurd (List.mem_map.2 ⟨x, hx', e⟩) h.1
   ·exact ih h.2 hx' hy'
theorem PMap.look_all {base B : Nat} {w : World} {l : List Int} {i : Nat} {es : List MapEntry} (h : PMap base B w l i es) {a b c : Int} (ha : 0 <= a /\ a < 256) (hb : 0 <= b /\ b < 256) (hc : 0 <= c /\ c < 256) :
  ∃ v ls, (∀ w' : World, w'.heap[B]? = w.heap[B]? -> (Instr.lookup 172 (.map (some B)) (key3 a b c) false).run Tryz.prog w' = .ok v w') /\ OwnN base w v ls /\ ls.length <= i /\ ∀ p ∈ ls, p < i /\ p + 2 < l.length /\ l.getD p 0 = a /\ l.getD (p + 1) 0 = b /\ l.getD (p + 2) 0 = c := by
 obtain ⟨ea, clock, h1, h2, h3⟩ := h.at';have hk : ∀ x ∈ ea.toList, ∃ l, keyOf Tryz.prog 173 x.key = some l := fun x hx => (h.rows x (by rw [<- h2]; exact hx)).key
 by_cases hex : ∃ e0 ∈ ea.toList, e0.key = key3 a b c
 ·obtain ⟨e0, h4, h5⟩ := hex
  obtain ⟨ls, a', b', c', r1, r2, r3, r4, r5⟩ := h.rows e0 (by rw [<- h2]; exact h4);rw [h5] at r1;unfold key3 at r1;simp only [Value.agg.injEq, Array.mk.injEq, List.cons.injEq, Value.int.injEq, true_and, and_true] at r1;obtain ⟨rfl, rfl, rfl⟩ := r1;refine ⟨e0.val, ls, fun w' hw' => ?_, r3, r4, r5⟩;rcases law_3.find w' (keyOf_3 ha hb hc) ea.toList hk with ⟨q1, q2⟩ | ⟨j, e1, q1, q2, q3⟩
  ·exact absurd h5 (q2 e0 h4)
  ·have e01 : e1 = e0 := nodup_key h3.2.2 (List.mem_of_getElem? q2) h4 (q3.trans h5.symm)
   subst e01;simp [Instr.lookup, run_underlying Tryz.underlying172, MapKept.run_getObj_map (hw'.trans h1), law_3.check w' _ (keyOf_3 ha hb hc), q1, Result.andThen]
 ·refine ⟨.slice none 0 0, [], fun w' hw' => ?_, World.ownsRow_nil _ _ _ _, Nat.zero_le _, (fun _ h => by cases h)⟩
  rcases law_3.find w' (keyOf_3 ha hb hc) ea.toList hk with ⟨q1, q2⟩ | ⟨j, e1, q1, q2, q3⟩
  ·simp [Instr.lookup, run_underlying Tryz.underlying172, MapKept.run_getObj_map (hw'.trans h1), law_3.check w' _ (keyOf_3 ha hb hc), q1, Result.andThen]
  ·exact absurd ⟨e1, List.mem_of_getElem? q2, q3⟩ hex
theorem PMap.note {base B : Nat} {w : World} {l : List Int} {i : Nat} {es : List MapEntry} (h : PMap base B w l i es) {a b c : Int} (ha : 0 <= a /\ a < 256) (hb : 0 <= b /\ b < 256) (hc : 0 <= c /\ c < 256) (hi : i + 2 < l.length) (e0 : l.getD i 0 = a) (e1 : l.getD (i + 1) 0 = b) (e2 : l.getD (i + 2) 0 = c) :
  ∃ v0 st w1 ls, (Instr.mapEntry 172 (.map (some B)) (key3 a b c)).run Tryz.prog w = .ok (.tuple #[v0, goInt st]) w1 /\ OwnN base w1 v0 ls /\ ls.length <= i /\ w.grownBy w1 (some B) /\ w1.heap.size = w.heap.size /\
   ∀ v' w2, OwnN base w2 v' (ls ++ [i]) -> w1.grownBy w2 v0.ownBlock -> (v'.ownBlock = v0.ownBlock \/ v'.ownBlock = some w1.heap.size) ->
    ∃ w3 es', (Instr.entryStore 172 (.map (some B)) (goInt st) v').run Tryz.prog w2 = .ok () w3 /\ PMap base B w3 l (i + 1) es' /\ w2.grownBy w3 (some B) := by
 obtain ⟨ea, clock, h1, h2, h3⟩ := h.at';have hkb : ∀ (x : MapEntry), x ∈ es -> x.val.ownBlock ≠ some B := fun x hx e => by
  obtain ⟨_, cur, h6⟩ := (h.rows x hx).block B e;rw [h1] at h6;cases h6
 obtain ⟨s1, s2, s3⟩ := h3;rcases entry_law law_3 Tryz.underlying172 zero_ints h1 ⟨s1, s2, s3⟩ (fun x hx => (h.rows x (by rw [<- h2]; exact hx)).key) (keyOf_3 ha hb hc) with ⟨es1, ck1, q1, q2, q3, q4⟩ | ⟨j, x0, q1, q2, q3, q4⟩
 ·refine ⟨_, _, _, [], q2, World.ownsRow_nil _ _ _ _, Nat.zero_le _, grown_setBlock _ _ _, by simp [setBlock], ?_⟩
  intro v' w2 hv hg hloc;have hB2 : w2.heap[B]? = some (.map es1 ck1) := (hg.block B (by simp [setBlock]; exact block_lt h1) (fun e => by cases e)).trans (heap_setBlock _ _ _ _ h1);obtain ⟨es', r1, r2⟩ := q4 w2 v' hB2;rw [h2] at q1 q3 r1 s1 s2 s3;have hrow : ∀ x ∈ es, Row3 base (setBlock w2 B (.map es' (clock + 1))) l (i + 1) x := fun x hx =>
   ((((h.rows x hx).grown (grown_setBlock w B (.map es1 ck1)) (.inr (hkb x hx))).grown hg (by cases x.val.ownBlock with | none => exact .inl rfl | some g => exact .inr (by simp [Value.ownBlock]))).grown (grown_setBlock w2 B _) (.inr (hkb x hx))).mono (Nat.le_succ i)
  have hvB : v'.ownBlock ≠ some B := fun e => by
   rcases hloc with e' | e'
   ·rw [e'] at e
    cases e
   ·rw [e'] at e
    have e9 := Option.some.inj e;have := block_lt h1;simp [setBlock] at e9;omega
  refine ⟨_, es'.toList, r2, ⟨⟨es', clock + 1, heap_setBlock _ _ _ _ hB2, rfl, ?_⟩, ?_, ?_, ?_⟩, grown_setBlock _ _ _⟩
  ·refine ⟨?_, ?_, ?_⟩
   ·intro x hx
    rw [r1] at hx;rcases List.mem_append.1 hx with h | h
    ·have := s1 x h
     omega
    ·rw [List.mem_singleton.1 h]
     exact Nat.lt_succ_self _
   ·rw [r1, List.map_append]
    refine List.nodup_append.2 ⟨s2, by simp, fun a ha c hc e1 => ?_⟩;simp only [List.map_cons, List.map_nil, List.mem_singleton] at hc;obtain ⟨x, hx, rfl⟩ := List.mem_map.1 ha;have := s1 x hx;omega
   ·rw [r1, List.map_append]
    refine List.nodup_append.2 ⟨s3, by simp, fun a ha c hc e1 => ?_⟩;simp only [List.map_cons, List.map_nil, List.mem_singleton] at hc;obtain ⟨x, hx, rfl⟩ := List.mem_map.1 ha;exact q3 x hx (e1.trans hc)
  ·intro x hx
   rw [r1] at hx;rcases List.mem_append.1 hx with h | h
   ·exact hrow x h
   ·rw [List.mem_singleton.1 h]
    refine ⟨[] ++ [i], a, b, c, rfl, ⟨ha, hb, hc⟩, World.ownsRow.kept hv (grown_setBlock w2 B _) (.inr hvB), by simp, ?_⟩;intro p hp;rw [List.nil_append, List.mem_singleton] at hp;subst hp;exact ⟨Nat.lt_succ_self _, hi, e0, e1, e2⟩
  ·rw [r1]
   have hnew : ∀ x ∈ es, ∀ g, x.val.ownBlock = some g -> v'.ownBlock ≠ some g := fun x hx g hg' e => by
    rcases hloc with e' | e'
    ·rw [e'] at e
     cases e
    ·rw [e'] at e
     have := ((h.rows x hx).block g hg').1;have e9 := Option.some.inj e;simp [setBlock] at e9;omega
   intro m k x y hx hy hne g hg';rcases Nat.lt_or_ge m es.length with hm | hm
   ·rw [List.getElem?_append_left hm] at hx
    rcases Nat.lt_or_ge k es.length with hk | hk
    ·rw [List.getElem?_append_left hk] at hy
     exact h.apart m k x y hx hy hne g hg'
    ·rw [List.getElem?_append_right hk] at hy
     have := List.mem_of_getElem? hy;rw [List.mem_singleton.1 this];exact hnew x (List.mem_of_getElem? hx) g hg'
   ·rw [List.getElem?_append_right hm] at hx
    have hx1 := List.mem_of_getElem? hx;rw [List.mem_singleton.1 hx1] at hg';rcases Nat.lt_or_ge k es.length with hk | hk
    ·rw [List.getElem?_append_left hk] at hy
     exact fun e => hnew y (List.mem_of_getElem? hy) g e hg'
    ·exfalso
     have h8 := (List.getElem?_eq_some_iff.1 hx).1;rw [List.getElem?_append_right hk] at hy;have h9 := (List.getElem?_eq_some_iff.1 hy).1;simp at h8 h9;omega
  ·exact Nat.le_trans h.base (Nat.le_trans (by simp [setBlock]) (Nat.le_trans hg.size (grown_setBlock w2 B _).size))
 ·rw [h2] at q1 s1 s2 s3
  obtain ⟨ls, a', b', c', t1, t2, t3, t4, t5⟩ := h.rows x0 (List.mem_of_getElem? q1);rw [q2] at t1;unfold key3 at t1;simp only [Value.agg.injEq, Array.mk.injEq, List.cons.injEq, Value.int.injEq, true_and, and_true] at t1;obtain ⟨rfl, rfl, rfl⟩ := t1;have hx0B := hkb x0 (List.mem_of_getElem? q1);refine ⟨_, _, _, ls, q3, World.ownsRow.kept t3 (grown_setBlock w B _) (.inr hx0B), t4, grown_setBlock _ _ _, by simp [setBlock], ?_⟩;intro v' w2 hv hg hloc;have hB2 : w2.heap[B]? = some (.map ea clock) := (hg.block B (by simp [setBlock]; exact block_lt h1) (fun e => hx0B e.symm)).trans (heap_setBlock _ _ _ _ h1);obtain ⟨es', r1, r2⟩ := q4 w2 v' hB2;rw [h2] at r1;have hrow : ∀ m x, es[m]? = some x -> m ≠ j -> Row3 base (setBlock w2 B (.map es' clock)) l (i + 1) x := fun m x hx hne =>
   ((((h.rows x (List.mem_of_getElem? hx)).grown (grown_setBlock w B (.map ea clock)) (.inr (hkb x (List.mem_of_getElem? hx)))).grown hg (by
    cases ho : x.val.ownBlock with
    | none => exact .inl rfl
    | some g => exact .inr (fun e => h.apart m j x x0 hx q1 hne g ho e.symm))).grown (grown_setBlock w2 B _) (.inr (hkb x (List.mem_of_getElem? hx)))).mono (Nat.le_succ i)
  have hvB : v'.ownBlock ≠ some B := fun e => by
   rcases hloc with e' | e'
   ·rw [e'] at e
    exact hx0B e
   ·rw [e'] at e
    have e9 := Option.some.inj e;have := block_lt h1;simp [setBlock] at e9;omega
  have hnew : ∀ m x, es[m]? = some x -> m ≠ j -> ∀ g, x.val.ownBlock = some g -> v'.ownBlock ≠ some g := fun m x hx hne g hg' e => by
   rcases hloc with e' | e'
   ·rw [e'] at e
    exact h.apart m j x x0 hx q1 hne g hg' e
   ·rw [e'] at e
    have := ((h.rows x (List.mem_of_getElem? hx)).block g hg').1;have e9 := Option.some.inj e;simp [setBlock] at e9;omega
  have hjl := (List.getElem?_eq_some_iff.1 q1).1;have hget : ∀ m, (es.set j ⟨key3 a b c, v', x0.born⟩)[m]? = if j = m then some ⟨key3 a b c, v', x0.born⟩ else es[m]? := fun m => by
   rw [List.getElem?_set];by_cases hm : j = m
   ·subst hm
    rw [if_pos rfl, if_pos rfl, if_pos hjl]
   ·rw [if_neg hm, if_neg hm]
  refine ⟨_, es'.toList, r2, ⟨⟨es', clock, heap_setBlock _ _ _ _ hB2, rfl, ?_⟩, ?_, ?_, ?_⟩, grown_setBlock _ _ _⟩
  ·have e1 : (es.set j ⟨key3 a b c, v', x0.born⟩).map (·.born) = es.map (·.born) := by
    rw [List.map_set];exact set_self _ _ _ (by rw [List.getElem?_map, q1]; rfl)
   have e2 : (es.set j ⟨key3 a b c, v', x0.born⟩).map (·.key) = es.map (·.key) := by
    rw [List.map_set];exact set_self _ _ _ (by rw [List.getElem?_map, q1]; show some x0.key = _; rw [q2])
   refine ⟨?_, by rw [r1, e1]; exact s2, by rw [r1, e2]; exact s3⟩;intro x hx;rw [r1] at hx;have h8 : x.born ∈ (es.set j ⟨key3 a b c, v', x0.born⟩).map (·.born) := List.mem_map.2 ⟨x, hx, rfl⟩;rw [e1] at h8;obtain ⟨y, hy, e9⟩ := List.mem_map.1 h8;rw [<- e9];exact s1 y hy
  ·intro x hx
   rw [r1] at hx;obtain ⟨m, hm⟩ := List.getElem?_of_mem hx;rw [hget] at hm;by_cases hjm : j = m
   ·rw [if_pos hjm] at hm
    obtain rfl := Option.some.inj hm;refine ⟨ls ++ [i], a, b, c, rfl, ⟨ha, hb, hc⟩, World.ownsRow.kept hv (grown_setBlock w2 B _) (.inr hvB), by simp; omega, ?_⟩;intro p hp;rcases List.mem_append.1 hp with h | h
    ·exact ⟨by have := (t5 p h).1; omega, (t5 p h).2⟩
    ·rw [List.mem_singleton] at h
     subst h;exact ⟨Nat.lt_succ_self _, hi, e0, e1, e2⟩
   ·rw [if_neg hjm] at hm
    exact hrow m x hm (fun e => hjm e.symm)
  ·rw [r1]
   intro m k x y hx hy hne g hg';rw [hget] at hx hy;by_cases hjm : j = m
   ·rw [if_pos hjm] at hx
    rw [if_neg (fun e => hne (by omega))] at hy;obtain rfl := Option.some.inj hx;exact fun e => hnew k y hy (fun e => hne (by omega)) g e hg'
   ·rw [if_neg hjm] at hx
    by_cases hjk : j = k
    ·rw [if_pos hjk] at hy
     obtain rfl := Option.some.inj hy;exact hnew m x hx (fun e => hjm e.symm) g hg'
    ·rw [if_neg hjk] at hy
     exact h.apart m k x y hx hy hne g hg'
  ·exact Nat.le_trans h.base (Nat.le_trans (by simp [setBlock]) (Nat.le_trans hg.size (grown_setBlock w2 B _).size))
end Go.Proofs.YthpckmcgbmfmcaaGreatDoor
namespace Go.Proofs.YthpckmcgbmfmcaaGreatDoor
open Go.RowKit Go.Sort Go.Maps Go.MapKept Go.ChangeMaps
def NotePost (base B : Nat) (l : List Int) (i : Nat) (w : World) (e : Ending) (w' : World) : Prop :=
 (∃ r, e = .returned r) /\ ∃ es', PMap base B w' l (i + 1) es' /\ Below base w w' /\ ∀ (j : Nat) (c : Array Value) (t : TypeId), w.heap[j]? = some (.cells c t (0, 0)) -> t ≠ 3 -> w'.heap[j]? = some (.cells c t (0, 0))
theorem getD_memI {l : List Int} {i : Nat} (h : i < l.length) : l.getD i 0 ∈ l := by
 rw [List.getD_eq_getElem?_getD, List.getElem?_eq_getElem h];exact List.getElem_mem h
theorem note_any (base B b1 b3 : Nat) (pa : Option Addr) (n pc : Nat) (l : List Int) (i : Nat) (es : List MapEntry) (w : World) (h : PMap base B w l i es) (hB : base <= B) (h1 : w.heap[b1]? = some (.cells #[.slice pa n pc] 22 (0, 0))) (h3 : w.heap[b3]? = some (.cells #[.map (some B)] 172 (0, 0)))
  (hs : Sl .u8 w pa n pc l) (hby : sm.Bytes l) (hi : i < n) (hn : n <= 16777216) :
  Calls Tryz.prog 97 #[.int .i64 (i : Nat), .pointer (some ⟨b1, 0, none⟩), .pointer (some ⟨b3, 0, none⟩)] w (NotePost base B l i w) := by
 have c1 := (cell_of_row w b1 0 _ _ (0, 0) h1).trans (show _ = some (Value.slice pa n pc) from rfl);have c3 := (cell_of_row w b3 0 _ _ (0, 0) h3).trans (show _ = some (Value.map (some B)) from rfl);have HM := hd_ h;have H3 := hd_ h3;have HS := hd_ hs;have HBY := hd_ hby;have HL := hd_ hs.len;have HBB := hd_ hB;have hfit := hs.fits;have hi2 : IntKind.i64.wrap ((i : Int) + 2) = ((i + 2 : Nat) : Int) := i64o (by omega) (by omega);have hi3 : IntKind.i64.wrap ((i : Int) + 3) = ((i + 3 : Nat) : Int) := i64o (by omega) (by omega);obtain ⟨i2, hi2e⟩ : ∃ z, i + 2 = z := ⟨_, rfl⟩;obtain ⟨i3, hi3e⟩ : ∃ z, i + 3 = z := ⟨_, rfl⟩;rw [hi2e] at hi2;rw [hi3e] at hi3;have HI2 := hd_ hi2e;have HI3 := hd_ hi3e;clear h h1 h3 hs hby hB hi2e hi3e;go_enter Tryz.func97, Tryz.ntmps97
 by_cases hlt : i2 < n
 ·obtain ⟨bb, bo, rfl, hce⟩ := HS.out.cells (by omega)
  have k0 := hce i (by omega);have k1 := hce (i + 1) (by have := HI2.out; omega);have k2 := hce (i + 2) (by have := HI2.out; omega);obtain ⟨x0, hx0⟩ : ∃ z, l.getD i 0 = z := ⟨_, rfl⟩;obtain ⟨x1, hx1⟩ : ∃ z, l.getD (i + 1) 0 = z := ⟨_, rfl⟩;obtain ⟨x2, hx2⟩ : ∃ z, l.getD (i + 2) 0 = z := ⟨_, rfl⟩;rw [hx0] at k0;rw [hx1] at k1;rw [hx2] at k2;have g1 : (i : Int) <= (i3 : Int) := by have := HI3.out; omega
  have g2 : (i3 : Int) <= (pc : Int) := by have := HI3.out; have := HI2.out; omega
  have g3 : i3 - i = 3 := by have := HI3.out; omega
  have har : (Instr.arrayAt 173 (.slice (some ⟨bb, bo + i, none⟩) 3 (pc - i))).run Tryz.prog w = .ok (.pointer (some ⟨bb, bo + i, none⟩)) w := by
   simp [Instr.arrayAt, run_underlying Tryz.underlying173]
  rw [show bo + (i + 1) = bo + i + 1 from rfl] at k1;rw [show bo + (i + 2) = bo + i + 2 from rfl] at k2;clear hce;go_upto_region 2 with (fail)
  have hb0 := HBY.out x0 (by rw [<- hx0]; exact getD_memI (by rw [HL.out]; omega));have hb1 := HBY.out x1 (by rw [<- hx1]; exact getD_memI (by rw [HL.out]; have := HI2.out; omega));have hb2 := HBY.out x2 (by rw [<- hx2]; exact getD_memI (by rw [HL.out]; have := HI2.out; omega));have hba : Below w.heap.size w (w.alloc (.cells #[.int .u8 x0, .int .u8 x1, .int .u8 x2] 173)) := (Below.refl _ _).alloc (Nat.le_refl _) _;have hna := heap_alloc_new w (.cells #[.int .u8 x0, .int .u8 x1, .int .u8 x2] 173 (0, 0));obtain ⟨w2, hw2⟩ : ∃ z, w.alloc (.cells #[.int .u8 x0, .int .u8 x1, .int .u8 x2] 173) = z := ⟨_, rfl⟩;obtain ⟨kb, hkb⟩ : ∃ z, w.heap.size = z := ⟨_, rfl⟩;rw [hw2] at hba hna;rw [hkb] at hna;rw [hw2, hkb];have d0 := (cr_ _ 0 hna (Value.int .u8 x0) rfl);have d1 := (cr_ _ 1 hna (Value.int .u8 x1) rfl);have d2 := (cr_ _ 2 hna (Value.int .u8 x2) rfl);have d3 := keep_cell hba c3;have hbb : Below w2.heap.size w2 (w2.alloc (.cells #[.int .i64 (i : Nat)] 3)) := (Below.refl _ _).alloc (Nat.le_refl _) _;have hnb := heap_alloc_new w2 (.cells #[.int .i64 (i : Nat)] 3 (0, 0));obtain ⟨w3, hw3⟩ : ∃ z, w2.alloc (.cells #[.int .i64 (i : Nat)] 3) = z := ⟨_, rfl⟩;obtain ⟨gb, hgb⟩ : ∃ z, w2.heap.size = z := ⟨_, rfl⟩;rw [hw3] at hbb hnb;rw [hgb] at hnb;have hM3 := (HM.out.below hba).below hbb;have hbw3 : Below w.heap.size w w3 := hba.trans (hbb.mono hba.size);obtain ⟨v0, st, w4, ls, hme, hv0, hlsl, hg4, hsz4, hst⟩ := hM3.note hb0 hb1 hb2 (by rw [HL.out]; have := HI2.out; omega) hx0 hx1 hx2;have hmb : ∀ c t, w3.heap[B]? ≠ some (.cells c t (0, 0)) := fun c t e => by
   obtain ⟨ea, ck, h5, _⟩ := hM3.at';rw [h5] at e;cases e
  have hnb4 := grown_block hg4 hnb (fun e => hmb _ _ (by rw [<- Option.some.inj e]; exact hnb));have hbase4 : base <= w4.heap.size := by rw [hsz4]; exact hM3.base
  have RUN := hd_ (run_append_nat w4 59 base v0 ls i hv0 (by omega) hbase4 gb hnb4);have hown0 := World.ownsRow.lt hv0;have hint0 : ∀ g, v0.ownBlock = some g -> ∃ cur, w4.heap[g]? = some (.cells cur 3 (0, 0)) := fun g hg => by
   rcases hv0.2 with ⟨h', _⟩ | ⟨g', cap, cur, h', q1, q2, _⟩
   ·rw [h'] at hg
    cases hg
   ·rw [h'] at hg
    obtain rfl : g' = g := Option.some.inj hg;exact ⟨cur, q2⟩
  have HST := hd_ hst;have HG4 := hd_ hg4;have HOW := hd_ hown0;have HIN := hd_ hint0;have HMB := hd_ hmb;have HBW3 := hd_ hbw3;have hmes : (Instr.mapEntry 172 (.map (some B)) (.agg #[.int .u8 x0, .int .u8 x1, .int .u8 x2])).run Tryz.prog w3 = .ok (.tuple #[v0, .int .i64 (st : Int)]) w4 := hme;obtain ⟨sti, hsti⟩ : ∃ z : Int, (st : Int) = z := ⟨_, rfl⟩;rw [hsti] at hmes;have HSTI := hd_ hsti;clear hb0 hb1 hb2 hba hna hkb hbb hnb hM3 hme hv0 hlsl hg4 hsz4 hst hmb hnb4 hbase4 hown0 hint0 hbw3 hsti k0 k1 k2 c1 c3 har g1 g2 g3 hi2 hi3;go_wp2_with (at_builtin; go_must (refine wpList_of_append rfl (.tmp 19) (.tmp 21) 59 59 rfl RUN.out ?_; rintro v9 w9 ⟨ho9, hg9, hl9⟩; obtain ⟨w6, es6, hst6, hpm6, hg6⟩ := HST.out v9 w9 ho9 hg9 hl9; have hst6' : (Instr.entryStore 172 (.map (some B)) (.int .i64 sti) v9).run Tryz.prog w9 = .ok () w6 := (by rw [<- HSTI.out]; exact hst6); have HPM6 := hd_ hpm6; have HG6 := hd_ hg6; have HG9 := hd_ hg9; clear ho9 hg9 hl9 hst6 hpm6 hg6))
  refine bodyPost_end (results_none rfl _ _ _) rfl ?_;have hbs : base <= w.heap.size := HM.out.base;have s3 : base <= w3.heap.size := Nat.le_trans hbs HBW3.out.size;have s4 : base <= w4.heap.size := Nat.le_trans s3 HG4.out.size;have s9 : base <= w9.heap.size := Nat.le_trans s4 HG9.out.size;have B4 := (HBW3.out.mono hbs).grown HG4.out s3 (fun r e => by obtain rfl := Option.some.inj e; exact HBB.out);have B9 := B4.grown HG9.out s4 (fun r e => (HOW.out r e).1);have B6 := B9.grown HG6.out s9 (fun r e => by obtain rfl := Option.some.inj e; exact HBB.out);refine ⟨⟨_, rfl⟩, es6, HPM6.out, B6, fun j c t hj ht => ?_⟩;have q3 := (HBW3.out.block _ (block_lt hj)).trans hj;have hjB : some j ≠ some B := fun e => HMB.out c t (by rw [<- Option.some.inj e]; exact q3)
  have q4 := grown_block HG4.out q3 hjB;have q9 := grown_block HG9.out q4 (fun e => by
   obtain ⟨cur, h5⟩ := HIN.out j e.symm;exact ne_of_types q4 h5 ht rfl)
  exact grown_block HG6.out q9 hjB
 ·have hlt2 : ¬ i2 < n := hlt
  go_wp2_with fail
  refine bodyPost_end (results_none rfl _ _ _) rfl ?_;exact ⟨⟨_, rfl⟩, es, HM.out.mono (Nat.le_succ i), Below.refl _ _, fun j c t hj _ => hj⟩
end Go.Proofs.YthpckmcgbmfmcaaGreatDoor
