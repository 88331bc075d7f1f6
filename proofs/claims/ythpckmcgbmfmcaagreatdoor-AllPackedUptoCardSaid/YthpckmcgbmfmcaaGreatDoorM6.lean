/- Texts of this claim, joined. -/
import Derived.Test.YthpckmcgbmfmcaaGreatDoorM5
import Derived.Maps.OwnSet
import Derived.DeepKeys5
import Derived.Laws.StructEq
set_option maxRecDepth 100000
set_option maxHeartbeats 12800000
namespace Go.Proofs.YthpckmcgbmfmcaaGreatDoor
namespace lz
structure K where
 clear : Nat
 width : Nat
 early : Nat
structure K.Good (k : K) : Prop where
 big : 4 <= k.clear
 most : k.clear <= 256
 fits : k.clear + 2 + k.early < 2 ^ k.width
 few : k.early <= 1
 low : 1 <= k.width
 high : k.width <= 12
structure E where
 ahead : Int
 last : Int
 first : Int
 n : Nat
 deriving DecidableEq
def leaf (i : Nat) : E := ⟨-1, (i : Nat), (i : Nat), 1⟩
def entries (k : K) : List E := (List.range k.clear).map leaf ++ [⟨0, 0, 0, 0⟩, ⟨0, 0, 0, 0⟩]
theorem entries_length (k : K) : (entries k).length = k.clear + 2 := by simp [entries]
theorem entries_leaf (k : K) {i : Nat} (h : i < k.clear) : (entries k)[i]? = some (leaf i) := by
 unfold entries;rw [List.getElem?_append_left (by simpa using h), List.getElem?_map, List.getElem?_range h];rfl
theorem entries_sign (k : K) {i : Nat} (h : k.clear <= i) (h2 : i < k.clear + 2) : (entries k)[i]? = some ⟨0, 0, 0, 0⟩ := by
 unfold entries;rw [List.getElem?_append_right (by simpa using h)];simp only [List.length_map, List.length_range];have : i - k.clear = 0 \/ i - k.clear = 1 := by omega
 rcases this with e | e <;> rw [e] <;> rfl
inductive Str (t : List E) : Nat -> List Int -> Prop
 | leaf {j : Nat} {b : Int} : t[j]? = some ⟨-1, b, b, 1⟩ -> Str t j [b]
 | node {j a : Nat} {b f : Int} {s : List Int} : t[j]? = some ⟨(a : Nat), b, f, s.length + 1⟩ -> a < j -> Str t a s -> s.head? = some f -> Str t j (s ++ [b])
theorem getElem?_grown {t u : List E} {j : Nat} {e : E} (h : t[j]? = some e) : (t ++ u)[j]? = some e := by
 have hj := (List.getElem?_eq_some_iff.1 h).1;rw [List.getElem?_append_left hj, h]
theorem Str.mono {t u : List E} {j : Nat} {s : List Int} (h : Str t j s) : Str (t ++ u) j s := by
 induction h with
 | leaf h => exact .leaf (getElem?_grown h)
 | node h ha _ hf ih => exact .node (getElem?_grown h) ha ih hf
theorem Str.ne {t : List E} {j : Nat} {s : List Int} (h : Str t j s) : s ≠ [] := by cases h <;> simp
theorem Str.entry {t : List E} {j : Nat} {s : List Int} (h : Str t j s) : ∃ e, t[j]? = some e /\ e.n = s.length /\ s.head? = some e.first := by
 cases h with
 | leaf h => exact ⟨_, h, rfl, rfl⟩
 | node h ha hs hf =>
  refine ⟨_, h, by simp, ?_⟩;rw [List.head?_append, hf];rfl
theorem Str.lt {t : List E} {j : Nat} {s : List Int} (h : Str t j s) : j < t.length := by
 obtain ⟨e, he, _⟩ := h.entry;exact (List.getElem?_eq_some_iff.1 he).1
theorem Str.len {t : List E} {j : Nat} {s : List Int} (h : Str t j s) : s.length <= j + 1 := by
 induction h with
 | leaf h => simp
 | node h ha hs hf ih => rw [List.length_append, List.length_singleton]; omega
theorem Str.one {t : List E} {j : Nat} {s : List Int} (h : Str t j s) : ∀ {s' : List Int}, Str t j s' -> s = s' := by
 induction h with
 | leaf h =>
  intro s' h';cases h' with
  | leaf h2 => rw [h] at h2; simp only [Option.some.injEq, E.mk.injEq] at h2; rw [h2.2.1]
  | node h2 _ _ _ => rw [h] at h2; simp only [Option.some.injEq, E.mk.injEq] at h2; omega
 | node h ha hs hf ih =>
  intro s' h';cases h' with
  | leaf h2 => rw [h] at h2; simp only [Option.some.injEq, E.mk.injEq] at h2; omega
  | node h2 ha2 hs2 hf2 =>
   rw [h] at h2;simp only [Option.some.injEq, E.mk.injEq] at h2;obtain ⟨h3, h4, _⟩ := h2;obtain rfl : _ = _ := Int.ofNat.inj h3;rw [ih hs2, h4]
theorem Str.back {t u : List E} {j : Nat} {s : List Int} (h : Str (t ++ u) j s) : j < t.length -> Str t j s := by
 generalize hv : t ++ u = v at h
 induction h with
 | leaf h =>
  intro hj;subst hv;rw [List.getElem?_append_left hj] at h;exact .leaf h
 | node h ha hs hf ih =>
  intro hj;subst hv;rw [List.getElem?_append_left hj] at h;exact .node h ha (ih (by omega)) hf
theorem Str.end {t : List E} {j : Nat} {s : List Int} (h : Str t j s) : ∃ e r, t[j]? = some e /\ s = r ++ [e.last] /\ ((r = [] /\ e.ahead = -1) \/ ∃ a : Nat, e.ahead = (a : Nat) /\ Str t a r) := by
 cases h with
 | leaf h => exact ⟨_, [], h, rfl, .inl ⟨rfl, rfl⟩⟩
 | node h ha hs hf => exact ⟨_, _, h, rfl, .inr ⟨_, rfl, hs⟩⟩
def fill (out s : List Int) (m : Nat) : List Int := out ++ List.replicate m 0 ++ s.drop m
theorem fill_length (out s : List Int) {m : Nat} (h : m <= s.length) : (fill out s m).length = out.length + s.length := by simp [fill]; omega
theorem fill_start (out s : List Int) : fill out s s.length = out ++ List.replicate s.length 0 := by simp [fill]
theorem fill_end (out s : List Int) : fill out s 0 = out ++ s := by simp [fill]
theorem fill_set (out r d : List Int) (x : Int) : (fill out (r ++ [x] ++ d) (r.length + 1)).set (out.length + r.length) x = fill out (r ++ [x] ++ d) r.length := by
 unfold fill;have e1 : (r ++ [x] ++ d).drop (r.length + 1) = d := List.drop_left' (by simp);have e2 : (r ++ [x] ++ d).drop r.length = x :: d := by rw [List.append_assoc, List.drop_left' rfl]; rfl
 rw [e1, e2, List.replicate_succ', List.append_assoc, List.append_assoc, List.append_assoc, List.set_append_right _ _ (by omega), Nat.add_sub_cancel_left, List.set_append_right _ _ (by simp)];simp
def Byt (t : List E) : Prop := ∀ e ∈ t, (0 <= e.last /\ e.last < 256) /\ (0 <= e.first /\ e.first < 256)
structure St where
 tab : List E
 width : Nat
 ahead : Option Nat
 out : List Int
def start (k : K) (out : List Int) : St := ⟨entries k, k.width, none, out⟩
def bump (k : K) (len width : Nat) : Nat := if len + k.early = 2 ^ width /\ width < 12 then width + 1 else width
def hd (s : List Int) : Int := s.head?.getD 0
theorem hd_of {s : List Int} {f : Int} (h : s.head? = some f) : hd s = f := by unfold hd; rw [h]; rfl
theorem hd_append {s t : List Int} (h : s ≠ []) : hd (s ++ t) = hd s := by cases s with
 | nil => exact absurd rfl h
 | cons x r => rfl
def Step (k : K) (st : St) (c n : Nat) (st' : St) : Prop :=
 n = st.width /\ ((c = k.clear /\ st' = start k st.out) \/ (c ≠ k.clear /\ c ≠ k.clear + 1 /\ ∃ s, Str st'.tab c s /\ st'.out = st.out ++ s /\ st'.ahead = some c /\
  match st.ahead with
  | none => c < k.clear /\ st'.tab = st.tab /\ st'.width = st.width
  | some a => c <= st.tab.length /\ st.tab.length < 4096 /\ ∃ sa, Str st.tab a sa /\ st'.tab = st.tab ++ [⟨(a : Nat), hd s, hd sa, sa.length + 1⟩] /\ st'.width = bump k (st.tab.length + 1) st.width))
inductive Runs (k : K) : St -> List (Nat × Nat) -> St -> Prop
 | nil {st : St} : Runs k st [] st
 | cons {st st' st'' : St} {c n : Nat} {r : List (Nat × Nat)} : Step k st c n st' -> Runs k st' r st'' -> Runs k st ((c, n) :: r) st''
theorem Runs.snoc {k : K} {st st' st'' : St} {r : List (Nat × Nat)} {c n : Nat} (h : Runs k st r st') (hs : Step k st' c n st'') : Runs k st (r ++ [(c, n)]) st'' := by
 induction h with
 | nil => exact .cons hs .nil
 | cons h1 _ ih => exact .cons h1 (ih hs)
theorem Step.out {k : K} {st st' : St} {c n : Nat} (h : Step k st c n st') : ∃ s, st'.out = st.out ++ s := by
 obtain ⟨_, h | ⟨_, _, s, _, h, _⟩⟩ := h
 ·exact ⟨[], by rw [h.2]; simp [start]⟩
 ·exact ⟨s, h⟩
theorem Runs.out {k : K} {st st' : St} {r : List (Nat × Nat)} (h : Runs k st r st') : ∃ s, st'.out = st.out ++ s := by
 induction h with
 | nil => exact ⟨[], by simp⟩
 | cons h1 _ ih =>
  obtain ⟨s1, e1⟩ := h1.out;obtain ⟨s2, e2⟩ := ih;exact ⟨s1 ++ s2, by rw [e2, e1, List.append_assoc]⟩
def Fits (T : List (Nat × Nat)) : Prop := ∀ q ∈ T, q.1 < 2 ^ q.2 /\ q.2 <= 12
theorem Fits.snoc {T : List (Nat × Nat)} (h : Fits T) {c n : Nat} (h1 : c < 2 ^ n) (h2 : n <= 12) : Fits (T ++ [(c, n)]) := by
 intro q hq;rcases List.mem_append.1 hq with hq | hq
 ·exact h q hq
 ·rw [List.mem_singleton.1 hq]
  exact ⟨h1, h2⟩
structure Wr (k : K) (T : List (Nat × Nat)) (st : St) (V : List E) (c : Nat) (s : List Int) (codes : Nat -> Int -> Option Nat) : Prop where
 runs : Runs k (start k []) T st
 fits : Fits T
 less : st.tab.length < 4090
 wide : st.tab.length + k.early < 2 ^ st.width
 most : st.width <= 12
 virt : match st.ahead with
  | none => V = st.tab /\ c < k.clear
  | some a => ∃ sa, Str st.tab a sa /\ V = st.tab ++ [⟨(a : Nat), hd s, hd sa, sa.length + 1⟩]
 low : ∃ u, V = entries k ++ u
 str : Str V c s
 map : ∀ p x c', codes p x = some c' -> ∃ sp, Str V p sp /\ Str V c' (sp ++ [x])
 bytes : Byt V
 bare : st.ahead = none -> ∀ p x, codes p x = none
theorem Wr.head {k : K} {T : List (Nat × Nat)} {st : St} {V : List E} {c : Nat} {s : List Int} {codes : Nat -> Int -> Option Nat} (h : Wr k T st V c s codes) : ∃ f, s.head? = some f /\ 0 <= f /\ f < 256 := by
 obtain ⟨e, he, _, hf⟩ := h.str.entry;exact ⟨e.first, hf, (h.bytes e (List.mem_of_getElem? he)).2⟩
theorem Wr.notSign {k : K} {T : List (Nat × Nat)} {st : St} {V : List E} {c : Nat} {s : List Int} {codes : Nat -> Int -> Option Nat} (h : Wr k T st V c s codes) : c ≠ k.clear /\ c ≠ k.clear + 1 := by
 obtain ⟨u, hu⟩ := h.low;obtain ⟨e, he, hn, _⟩ := h.str.entry;have hne := h.str.ne;have key : ∀ i, k.clear <= i -> i < k.clear + 2 -> c ≠ i := by
  intro i h1 h2 e';subst e';rw [hu, getElem?_grown (entries_sign k h1 h2)] at he;cases he;exact hne (List.eq_nil_of_length_eq_zero hn.symm)
 exact ⟨key _ (Nat.le_refl _) (by omega), key _ (by omega) (by omega)⟩
theorem Wr.virtLen {k : K} {T : List (Nat × Nat)} {st : St} {V : List E} {c : Nat} {s : List Int} {codes : Nat -> Int -> Option Nat} (h : Wr k T st V c s codes) : V.length = st.tab.length + (if st.ahead.isSome then 1 else 0) := by
 have := h.virt;cases ha : st.ahead with
 | none => rw [ha] at this; rw [this.1]; rfl
 | some a =>
  rw [ha] at this;obtain ⟨sa, _, e⟩ := this;rw [e];simp
theorem Wr.tab_le {k : K} {T : List (Nat × Nat)} {st : St} {V : List E} {c : Nat} {s : List Int} {codes : Nat -> Int -> Option Nat} (h : Wr k T st V c s codes) : k.clear + 2 <= V.length := by
 obtain ⟨u, hu⟩ := h.low;rw [hu, List.length_append, entries_length];omega
theorem Wr.code {k : K} {T : List (Nat × Nat)} {st : St} {V : List E} {c : Nat} {s : List Int} {codes : Nat -> Int -> Option Nat} (h : Wr k T st V c s codes) : c < 2 ^ st.width := by
 have h1 := h.str.lt;have h2 := h.virtLen;have h3 := h.wide;split at h2 <;> omega
theorem Wr.known {k : K} {T : List (Nat × Nat)} {st : St} {V : List E} {c : Nat} {s : List Int} {codes : Nat -> Int -> Option Nat} (h : Wr k T st V c s codes) {x : Int} {c' : Nat} (hc : codes c x = some c') :
  Wr k T st V c' (s ++ [x]) codes := by
 obtain ⟨sp, h1, h2⟩ := h.map _ _ _ hc;obtain rfl := h1.one h.str;have hv := h.virt;refine ⟨h.runs, h.fits, h.less, h.wide, h.most, ?_, h.low, h2, h.map, h.bytes, h.bare⟩;cases ha : st.ahead with
 | none =>
  rw [h.bare ha] at hc;cases hc
 | some a =>
  rw [ha] at hv;obtain ⟨sa, e1, e2⟩ := hv;refine ⟨sa, e1, ?_⟩;rw [hd_append h1.ne];exact e2
def after (k : K) (st : St) (V : List E) (c : Nat) (s : List Int) : St := ⟨V, if st.ahead.isSome then bump k V.length st.width else st.width, some c, st.out ++ s⟩
theorem Wr.step {k : K} {T : List (Nat × Nat)} {st : St} {V : List E} {c : Nat} {s : List Int} {codes : Nat -> Int -> Option Nat} (h : Wr k T st V c s codes) : Step k st c st.width (after k st V c s) := by
 have hv := h.virt;have hns := h.notSign;refine ⟨rfl, .inr ⟨hns.1, hns.2, s, h.str, rfl, rfl, ?_⟩⟩;cases ha : st.ahead with
 | none =>
  rw [ha] at hv;exact ⟨hv.2, hv.1, by unfold after; rw [ha]; rfl⟩
 | some a =>
  rw [ha] at hv;obtain ⟨sa, e1, e2⟩ := hv;have hl := h.virtLen;rw [ha] at hl;have hc := h.str.lt;have hless := h.less;simp only [Option.isSome_some, if_true] at hl;refine ⟨by omega, by omega, sa, e1, e2, ?_⟩;unfold after;rw [ha];simp only [Option.isSome_some, if_true, hl]
theorem bump_wide {k : K} (hk : k.Good) {len width : Nat} (h : len + k.early < 2 ^ width) (h1 : len + 1 <= 4090) (hw : width <= 12) : len + 1 + k.early < 2 ^ bump k (len + 1) width /\ bump k (len + 1) width <= 12 := by
 have hf := hk.few;unfold bump;split
 ·rename_i e
  have : 2 ^ width ≥ 1 := Nat.one_le_two_pow;rw [Nat.pow_succ];refine ⟨?_, by omega⟩;have : (2:Nat) ^ width ≥ 1 := Nat.one_le_two_pow;have h5 : 5 <= 2 ^ width \/ 2 ^ width < 5 := by omega
  omega
 ·rename_i e
  refine ⟨?_, hw⟩;rcases Nat.lt_or_ge width 12 with h2 | h2
  ·have : ¬ len + 1 + k.early = 2 ^ width := fun e' => e ⟨e', h2⟩
   omega
  ·have : width = 12 := by omega
   subst this;omega
theorem Wr.fresh {k : K} (hk : k.Good) {T : List (Nat × Nat)} {st : St} {V : List E} {c : Nat} {s : List Int} {codes : Nat -> Int -> Option Nat} (h : Wr k T st V c s codes) {x : Nat} (hx : x < k.clear) (hnext : V.length < 4090)
  (codes' : Nat -> Int -> Option Nat) (hcodes : ∀ p y c', codes' p y = some c' -> (p = c /\ y = (x : Nat) /\ c' = V.length) \/ codes p y = some c') :
  Wr k (T ++ [(c, st.width)]) (after k st V c s) (V ++ [⟨(c : Nat), (x : Nat), hd s, s.length + 1⟩]) x [((x : Nat) : Int)] codes' := by
 have hl := h.virtLen;have hb : V.length + k.early < 2 ^ (after k st V c s).width /\ (after k st V c s).width <= 12 := by
  unfold after;dsimp only;split at hl
  ·rename_i hs
   rw [if_pos hs, hl];exact bump_wide hk h.wide (by omega) h.most
  ·rename_i hs
   rw [if_neg hs, hl];exact ⟨h.wide, h.most⟩
 obtain ⟨u, hu⟩ := h.low;have hhd := h.head;obtain ⟨f, hf, hf0, hf1⟩ := hhd;have hnew : Str (V ++ [⟨(c : Nat), (x : Nat), hd s, s.length + 1⟩]) V.length (s ++ [((x : Nat) : Int)]) := by
  refine .node (f := hd s) (by rw [List.getElem?_append_right (Nat.le_refl _), Nat.sub_self]; rfl) h.str.lt h.str.mono ?_;rw [hd_of hf, hf]
 have hm := hk.most;refine ⟨h.runs.snoc h.step, h.fits.snoc h.code h.most, hnext, hb.1, hb.2, ⟨s, h.str, rfl⟩, ⟨u ++ [_], by rw [hu, List.append_assoc]⟩, ?_, ?_, ?_, (fun e => by cases e)⟩
 ·refine .leaf ?_
  rw [hu, List.append_assoc];exact getElem?_grown (entries_leaf k hx)
 ·intro p y c' hc
  rcases hcodes p y c' hc with ⟨rfl, rfl, rfl⟩ | hc
  ·exact ⟨s, h.str.mono, hnew⟩
  ·obtain ⟨sp, h1, h2⟩ := h.map _ _ _ hc
   exact ⟨sp, h1.mono, h2.mono⟩
 ·intro e he
  rcases List.mem_append.1 he with he | he
  ·exact h.bytes e he
  ·rw [List.mem_singleton.1 he]
   dsimp only;rw [hd_of hf];omega
theorem byt_entries {k : K} (hk : k.Good) : Byt (entries k) := by
 have := hk.most;intro e he;unfold entries at he;rcases List.mem_append.1 he with he | he
 ·obtain ⟨i, hi, rfl⟩ := List.mem_map.1 he
  have := List.mem_range.1 hi;simp only [leaf];omega
 ·simp at he
  rw [he];simp
theorem wr_start {k : K} (hk : k.Good) {T : List (Nat × Nat)} {out : List Int} (hr : Runs k (start k []) T (start k out)) (hT : Fits T) {x : Nat} (hx : x < k.clear) :
  Wr k T (start k out) (entries k) x [((x : Nat) : Int)] (fun _ _ => none) := by
 have h1 := hk.most;have h2 := hk.fits;refine ⟨hr, hT, ?_, ?_, hk.high, ⟨rfl, hx⟩, ⟨[], by simp⟩, .leaf (entries_leaf k hx), (fun _ _ _ h => by cases h), byt_entries hk, fun _ _ _ => rfl⟩
 ·show (entries k).length < 4090
  rw [entries_length]; omega
 ·show (entries k).length + k.early < 2 ^ k.width
  rw [entries_length]; exact h2
theorem Wr.full {k : K} (hk : k.Good) {T : List (Nat × Nat)} {st : St} {V : List E} {c : Nat} {s : List Int} {codes : Nat -> Int -> Option Nat} (h : Wr k T st V c s codes) {x : Nat} (hx : x < k.clear) :
  Wr k (T ++ [(c, st.width)] ++ [(k.clear, (after k st V c s).width)]) (start k (st.out ++ s)) (entries k) x [((x : Nat) : Int)] (fun _ _ => none) := by
 have hb : k.clear < 2 ^ (after k st V c s).width /\ (after k st V c s).width <= 12 := by
  have hl := h.virtLen;have hle := h.tab_le;have h3 := h.less;unfold after;dsimp only;split at hl
  ·rename_i hs
   rw [if_pos hs, hl];have := bump_wide hk h.wide (by omega) h.most;omega
  ·rename_i hs
   rw [if_neg hs];have := h.wide;exact ⟨by omega, h.most⟩
 exact wr_start hk ((h.runs.snoc h.step).snoc ⟨rfl, .inl ⟨rfl, rfl⟩⟩) ((h.fits.snoc h.code h.most).snoc hb.1 hb.2) hx
def Tells (k : K) (T : List (Nat × Nat)) (out : List Int) : Prop := ∃ T0 st, T = T0 ++ [(k.clear + 1, st.width)] /\ Runs k (start k []) T0 st /\ st.out = out /\ Fits T
theorem Wr.tells {k : K} (hk : k.Good) {T : List (Nat × Nat)} {st : St} {V : List E} {c : Nat} {s : List Int} {codes : Nat -> Int -> Option Nat} (h : Wr k T st V c s codes) :
  Tells k (T ++ [(c, st.width)] ++ [(k.clear + 1, (after k st V c s).width)]) (st.out ++ s) := by
 have hb : k.clear + 1 < 2 ^ (after k st V c s).width /\ (after k st V c s).width <= 12 := by
  have hl := h.virtLen;have hle := h.tab_le;have h3 := h.less;unfold after;dsimp only;split at hl
  ·rename_i hs
   rw [if_pos hs, hl];have := bump_wide hk h.wide (by omega) h.most;omega
  ·rename_i hs
   rw [if_neg hs];have := h.wide;exact ⟨by omega, h.most⟩
 exact ⟨_, _, rfl, h.runs.snoc h.step, rfl, (h.fits.snoc h.code h.most).snoc hb.1 hb.2⟩
theorem tells_none {k : K} (hk : k.Good) : Tells k [(k.clear, k.width), (k.clear + 1, k.width)] [] := by
 have h1 := hk.fits;have h2 := hk.high;refine ⟨[(k.clear, k.width)], start k [], rfl, .cons ⟨rfl, .inl ⟨rfl, rfl⟩⟩ .nil, rfl, ?_⟩;intro q hq;simp only [List.mem_cons, List.not_mem_nil, or_false] at hq;rcases hq with rfl | rfl
 ·exact ⟨by dsimp only; omega, h2⟩
 ·exact ⟨by dsimp only; omega, h2⟩
def bitsOfAll (up : Bool) (T : List (Nat × Nat)) : List Bool := T.flatMap fun q => bt.bitsOf up q.1 q.2
theorem bitsOfAll_snoc (up : Bool) (T : List (Nat × Nat)) (c n : Nat) : bitsOfAll up (T ++ [(c, n)]) = bitsOfAll up T ++ bt.bitsOf up c n := by simp [bitsOfAll]
theorem bitsOfAll_cons (up : Bool) (T : List (Nat × Nat)) (c n : Nat) : bitsOfAll up ((c, n) :: T) = bt.bitsOf up c n ++ bitsOfAll up T := by simp [bitsOfAll]
end lz
end Go.Proofs.YthpckmcgbmfmcaaGreatDoor
namespace Go.Proofs.YthpckmcgbmfmcaaGreatDoor
open Go.RowKit Go.Sort Go.Maps
theorem laidOut : laidOutB Tryz.prog = true := by kernel_rfl
theorem row_pair : 146 < Tryz.prog.types.size := of_decide_eq_true (by kernel_rfl)
theorem law_pair : Keyed Tryz.prog 146 := Keyed.of_law (deep_law_laid laidOut (m := 3) (by omega) row_pair (by kernel_rfl) (by kernel_rfl))
theorem types_big : (decide (2 <= Tryz.prog.types.size)) = true := by kernel_rfl
theorem types_size : ∃ m, Tryz.prog.types.size = m + 2 := ⟨Tryz.prog.types.size - 2, by have := of_decide_eq_true types_big; omega⟩
def lz.key (p : Nat) (x : Int) : Lit := .string (keyBytes [.int .i64 (p : Nat), .int .u8 x])
theorem keyOf_pair (p : Nat) (x : Int) (hp : p < 1125899906842624) (hx : 0 <= x /\ x < 256) : keyOf Tryz.prog 146 (.agg #[.int .i64 (p : Nat), .int .u8 x]) = some (lz.key p x) := by
 have w1 : (Lit.int .i64 (p : Nat)).wf = true := by simp [Lit.wf, IntKind.min, IntKind.max, IntKind.bits, IntKind.signed]; omega
 have w2 : (Lit.int .u8 x).wf = true := by simp [Lit.wf, IntKind.min, IntKind.max, IntKind.bits, IntKind.signed]; omega
 have h1 : Tryz.prog.keyType 146 = true := by kernel_rfl
 have h2 : Tryz.prog.cellsOf 146 = 2 := by kernel_rfl
 have h3 : Tryz.prog.cellsOf 3 = 1 := by kernel_rfl
 have h4 : Tryz.prog.cellsOf 5 = 1 := by kernel_rfl
 have hu := Tryz.underlying146;obtain ⟨m, hm⟩ := types_size;unfold keyOf;simp only [hu];rw [if_pos (by simp [h1, Value.formed, hu, h2]), hm];unfold Program.keyLits;simp only [hu, Value.cells];rw [if_pos (by rw [h2]; exact ⟨rfl, by simp⟩)];have e1 : Tryz.prog.keyLits (m + 2) 3 [.int .i64 (p : Nat)] = some [.int .i64 (p : Nat)] := by
  unfold Program.keyLits;rw [show Tryz.prog.underlying 3 = some (.int .i64) from Tryz.underlying3];simp only;rw [if_pos ⟨trivial, w1⟩]
 have e2 : Tryz.prog.keyLits (m + 2) 5 [.int .u8 x] = some [.int .u8 x] := by
  unfold Program.keyLits;rw [show Tryz.prog.underlying 5 = some (.int .u8) from Tryz.underlying5];simp only;rw [if_pos ⟨trivial, w2⟩]
 simp [List.mapM_cons, List.mapM_nil, h3, h4, e1, e2, lz.key]
theorem key_inj {p p' : Nat} {x x' : Int} (hp : p < 1125899906842624) (hx : 0 <= x /\ x < 256) (hp' : p' < 1125899906842624) (hx' : 0 <= x' /\ x' < 256) (h : lz.key p x = lz.key p' x') : p = p' /\ x = x' := by
 have h1 := keyOf_pair p x hp hx;have h2 := keyOf_pair p' x' hp' hx';rw [<- h] at h2;have := law_pair.inj h1 h2;simp at this;omega
theorem infoCol : (Tryz.prog.info? 41).map (fun i => (i.zero, i.size, i.bytes)) = some (some (.agg #[.int .u16 0, .int .u16 0, .int .u16 0, .int .u16 0]), 4, 8) := by kernel_rfl
theorem colSize4 (a b c d : Value) : (Tryz.prog.info? 41).map (·.size) = some (#[a, b, c, d] : Array Value).size := by
 have h : (Tryz.prog.info? 41).map (·.size) = some 4 := by kernel_rfl
 exact h
theorem colOne (r g b a : Int) : (#[.int .u16 r, .int .u16 g, .int .u16 b, .int .u16 a] : Array Value).all (·.oneCell') = true := by simp [Value.oneCell']
def C4.cells (c : C4) : List Value := [.int .u16 c.r, .int .u16 c.g, .int .u16 c.b, .int .u16 c.a]
def C4.val (c : C4) : Value := .agg #[.int .u16 c.r, .int .u16 c.g, .int .u16 c.b, .int .u16 c.a]
theorem C4.cells_one (c : C4) : ∀ u ∈ c.cells, u.oneCell' = true := by
 intro u hu;simp only [C4.cells, List.mem_cons, List.not_mem_nil, or_false] at hu;rcases hu with rfl | rfl | rfl | rfl <;> rfl
theorem C4.eq {c d : C4} (h0 : c.r = d.r) (h1 : c.g = d.g) (h2 : c.b = d.b) (h3 : c.a = d.a) : c = d := by
 cases c; cases d; simp_all
instance : DecidableEq C4 := fun c d =>
 if h : c.r = d.r /\ c.g = d.g /\ c.b = d.b /\ c.a = d.a then isTrue (C4.eq h.1 h.2.1 h.2.2.1 h.2.2.2) else isFalse (by rintro rfl; exact h ⟨rfl, rfl, rfl, rfl⟩)
def colRow (t : List C4) : List Value := t.flatMap C4.cells
theorem colRow_snoc (t : List C4) (c : C4) : colRow (t ++ [c]) = colRow t ++ c.cells := by simp [colRow]
theorem colRow_length (t : List C4) : (colRow t).length = t.length * 4 := by
 induction t with
 | nil => rfl
 | cons e r ih =>
  simp only [colRow, List.flatMap_cons, List.length_append, List.length_cons] at ih ⊢;rw [ih];simp [C4.cells];omega
theorem colRow_get : ∀ (t : List C4) (i : Nat), (colRow t)[i]? = (t[i / 4]?).bind fun e => e.cells[i % 4]?
 | [], i => by simp [colRow]
 | e :: r, i => by
  have hc : (colRow (e :: r)) = e.cells ++ colRow r := by simp [colRow]
  have hl : e.cells.length = 4 := rfl;rw [hc];rcases Nat.lt_or_ge i 4 with h | h
  ·rw [List.getElem?_append_left (by rw [hl]; exact h), show i / 4 = 0 by omega, show i % 4 = i by omega]
   rfl
  ·rw [List.getElem?_append_right (by rw [hl]; exact h), hl, colRow_get r (i - 4), show i / 4 = (i - 4) / 4 + 1 by omega, List.getElem?_cons_succ, show (i - 4) % 4 = i % 4 by omega]
def OwnC (base : Nat) (w : World) (v : Value) (t : List C4) : Prop := w.ownsRow base 41 4 v t.length (colRow t)
theorem OwnC.below {base : Nat} {w w' : World} {v : Value} {t : List C4} (h : OwnC base w v t) (hb : Below w.heap.size w w') : OwnC base w' v t := ownsRow_below h hb
theorem OwnC.rd {base : Nat} {w : World} {v : Value} {t : List C4} (h : OwnC base w v t) : ∃ a c, v = .slice a t.length c /\ t.length <= c /\ c <= maxLen /\ RdC w a t /\ (a = none -> c = 0) := by
 obtain ⟨a, c, rfl, h1, h2, h3⟩ := own_slice' h;refine ⟨a, c, rfl, h1, h2, ?_, ?_⟩
 ·rcases h3 with ⟨h4, _⟩ | ⟨g, rfl, h4⟩
  ·exact .inl (List.eq_nil_of_length_eq_zero h4)
  ·refine .inr ⟨g, 0, rfl, fun i hi => ?_⟩
   have key : ∀ f u, f < 4 -> (t.getD i C4.zero).cells[f]? = some u -> w.cell? ⟨g, 0 + i * 4 + f, none⟩ = some u := by
    intro f u hf hu;rw [Nat.zero_add];refine h4 (i * 4 + f) u ?_;rw [colRow_get, show (i * 4 + f) / 4 = i by omega, show (i * 4 + f) % 4 = f by omega, List.getElem?_eq_getElem hi];rw [List.getD_eq_getElem?_getD, List.getElem?_eq_getElem hi] at hu;exact hu
   exact ⟨key 0 _ (by decide) rfl, key 1 _ (by decide) rfl, key 2 _ (by decide) rfl, key 3 _ (by decide) rfl⟩
 ·intro e
  rcases h3 with ⟨_, h5⟩ | ⟨g, rfl, _⟩
  ·exact h5
  ·cases e
theorem run_append_col (w : World) (ty : TypeId) (base : Nat) (v : Value) (t : List C4) (c : C4) (h : OwnC base w v t) (ht : t.length <= 1099511627776) (hb : base <= w.heap.size) (g : Nat) (hg : w.heap[g]? = some (.cells #[.int .u16 c.r, .int .u16 c.g, .int .u16 c.b, .int .u16 c.a] 41 (0, 0))) :
  ∃ v' w', (Builtin.append_ #[94, 94] ty #[v, .slice (some ⟨g, 0, none⟩) 1 1]).run Tryz.prog w = .ok v' w' /\ (OwnC base w' v' (t ++ [c]) /\ w.grownBy w' v.ownBlock /\ (v'.ownBlock = v.ownBlock \/ v'.ownBlock = some w.heap.size)) := by
 obtain ⟨i, hi, hz, hs, hby⟩ := info_parts infoCol;obtain ⟨v', w', h1, h2, h3, _, h5⟩ := run_append_own_at (P := Tryz.prog) w base 94 ty 41 i _ 4 8 Tryz.underlying94 hi hz hs hby rfl (by decide) v t.length (colRow t) h ⟨g, 0, none⟩ 1 1 c.cells rfl (by
  intro j u hu;have h1 : (⟨g, 0, none⟩ : Addr).add j = ⟨g, j, none⟩ := by unfold Addr.add; split <;> simp_all
  rw [h1, cell_of_row w g j _ _ (0, 0) hg];rw [<- hu];simp [C4.cells]) c.cells_one (by unfold maxLen; omega) (by omega) hb
 refine ⟨v', w', h1, ?_, h3, h5⟩;unfold OwnC;rw [colRow_snoc, List.length_append];exact h2
end Go.Proofs.YthpckmcgbmfmcaaGreatDoor
namespace Go.Proofs.YthpckmcgbmfmcaaGreatDoor
open Go.RowKit Go.Sort
def e8 (v : Int) : Int := 257 * tm.downV v 255
def ColPost (c : C4) (w : World) (e : Ending) (w' : World) : Prop := e = .returned (.agg #[.int .u16 c.r, .int .u16 c.g, .int .u16 c.b, .int .u16 c.a]) /\ Below w.heap.size w w'
theorem colour_any (b o n cap : Nat) (l : List Int) (w : World) (h : Sl .u16 w (some ⟨b, o, none⟩) n cap l) (hn : 4 <= n) : Calls Tryz.prog 81 #[.slice (some ⟨b, o, none⟩) n cap] w (ColPost ⟨l.getD 0 0, l.getD 1 0, l.getD 2 0, l.getD 3 0⟩ w) := by
 obtain ⟨b', o', e, hc⟩ := h.cells (by omega);simp only [Option.some.injEq, Addr.mk.injEq, and_true] at e;obtain ⟨rfl, rfl⟩ := e;have hk := fun i (hi : i < 4) => hc i (by omega)
 obtain ⟨x0, e0⟩ : ∃ x, l.getD 0 0 = x := ⟨_, rfl⟩;obtain ⟨x1, e1⟩ : ∃ x, l.getD 1 0 = x := ⟨_, rfl⟩;obtain ⟨x2, e2⟩ : ∃ x, l.getD 2 0 = x := ⟨_, rfl⟩;obtain ⟨x3, e3⟩ : ∃ x, l.getD 3 0 = x := ⟨_, rfl⟩;have k0 := hk 0 (by decide);have k1 := hk 1 (by decide);have k2 := hk 2 (by decide);have k3 := hk 3 (by decide);rw [e0] at k0 ⊢;rw [e1] at k1 ⊢;rw [e2] at k2 ⊢;rw [e3] at k3 ⊢;rw [Nat.add_zero] at k0;have q0 := heap_alloc_new w (.cells #[.int .u16 0, .int .u16 0, .int .u16 0, .int .u16 0] 41 (0, 0));have B0 := hd_ ((Below.refl w.heap.size w).alloc (Nat.le_refl _) (.cells #[.int .u16 0, .int .u16 0, .int .u16 0, .int .u16 0] 41));have Q0 := hd_ q0;have s0 := keep_cell B0.out k0;have s1 := keep_cell B0.out k1;have s2 := keep_cell B0.out k2;have s3 := keep_cell B0.out k3;clear h hc hk k0 k1 k2 k3 e0 e1 e2 e3 q0;go_enter Tryz.func81, Tryz.ntmps81
 go_wp2_with fail
 generalize w.alloc (.cells #[.int .u16 0, .int .u16 0, .int .u16 0, .int .u16 0] 41) = w1 at *;have a0 := cell_regrown s0;have a1 := cell_regrown s1;have a2 := cell_regrown s2;have a3 := cell_regrown s3;have u0 : (0 : Int) < (n : Int) := by omega
 have u1 : (1 : Int) < (n : Int) := by omega
 have u2 : (2 : Int) < (n : Int) := by omega
 have u3 : (3 : Int) < (n : Int) := by omega
 refine wp_region_quiet_tail 13 (by kernel_rfl) (by kernel_rfl) ?_;simp only [List.take_succ_cons, List.take_zero, List.drop_succ_cons, List.drop_zero]
 repeat (go_big_quiet_step (fail))
 refine wpQuiet_nil ?_;intro _ hw';obtain ⟨⟨dq, osq⟩, hw''⟩ := hw';subst hw'';have hb := below_regrown w1 dq osq;clear a0 a1 a2 a3;generalize grow (redrawn w1 dq) osq = w4 at *;have R4 := hd_ ((hb.block _ (block_lt Q0.out)).trans Q0.out);have HB4 := hd_ (B0.out.trans (hb.mono B0.out.size));clear hb;refine wpList_store_row rfl 41 _ _ rfl w.heap.size #[.int .u16 x0, .int .u16 x1, .int .u16 x2, .int .u16 x3] rfl rfl 41 _ R4.out (colSize4 _ _ _ _) rfl (colOne _ _ _ _) ?_;go_wp2_with fail
 exact bodyPost_ret (results_cell_row (p := 2) (ty := 41) rfl _ _ w.heap.size 41 _ (0, 0) _ rfl (setRow_heap _ _ _ _ _ _ R4.out) Tryz.underlying41 rfl (colSize4 _ _ _ _)) rfl ⟨rfl, below_setRow HB4.out (Nat.le_refl _) _⟩
end Go.Proofs.YthpckmcgbmfmcaaGreatDoor
namespace Go.Proofs.YthpckmcgbmfmcaaGreatDoor
open Go.RowKit Go.Sort Go.Maps
theorem Sl.u16s {w : World} {a : Option Addr} {n cap : Nat} {l : List Int} (h : Sl .u16 w a n cap l) : u16s l := by
 intro x hx;have := h.wf x hx;simp [Lit.wf, IntKind.min, IntKind.max, IntKind.bits, IntKind.signed] at this;omega
end Go.Proofs.YthpckmcgbmfmcaaGreatDoor
namespace Go.Proofs.YthpckmcgbmfmcaaGreatDoor
open Go.RowKit Go.Sort
def CloneC (t : List C4) (w : World) (e : Ending) (w' : World) : Prop := ∃ g c, e = .returned (.slice (some ⟨g, 0, none⟩) t.length c) /\ w.heap.size <= g /\ OwnC w.heap.size w' (.slice (some ⟨g, 0, none⟩) t.length c) t /\ Below w.heap.size w w'
theorem RdC.below {w w' : World} {a : Option Addr} {t : List C4} (h : RdC w a t) (hb : Below w.heap.size w w') : RdC w' a t := by
 rcases h with h | ⟨b, off, e, hc⟩
 ·exact .inl h
 ·exact .inr ⟨b, off, e, fun i hi => ⟨keep_cell hb (hc i hi).1, keep_cell hb (hc i hi).2.1, keep_cell hb (hc i hi).2.2.1, keep_cell hb (hc i hi).2.2.2⟩⟩
theorem rdC_news {w : World} {b off : Nat} {t : List C4} (h : RdC w (some ⟨b, off, none⟩) t) : ∀ j u, (colRow t)[j]? = some u -> w.cell? ((⟨b, off, none⟩ : Addr).add j) = some u := by
 intro j u hu;have h1 : (⟨b, off, none⟩ : Addr).add j = ⟨b, off + j, none⟩ := by unfold Addr.add; split <;> simp_all
 rw [h1];rw [colRow_get] at hu;rcases h with h | ⟨b', off', e, hc⟩
 ·subst h
  simp at hu
 ·simp only [Option.some.injEq, Addr.mk.injEq, and_true] at e
  obtain ⟨rfl, rfl⟩ := e;have hj : j / 4 < t.length := by
   rcases Nat.lt_or_ge (j / 4) t.length with h2 | h2
   ·exact h2
   ·rw [List.getElem?_eq_none h2] at hu
    cases hu
  obtain ⟨k0, k1, k2, k3⟩ := hc _ hj;rw [List.getD_eq_getElem?_getD, List.getElem?_eq_getElem hj] at k0 k1 k2 k3;rw [List.getElem?_eq_getElem hj] at hu;have hm : j % 4 = 0 \/ j % 4 = 1 \/ j % 4 = 2 \/ j % 4 = 3 := by omega
  have hu' : (t[j / 4]).cells[j % 4]? = some u := hu;rcases hm with e | e | e | e
  ·rw [e] at hu'; rw [show off + j = off + j / 4 * 4 by omega, k0, <- hu']; rfl
  ·rw [e] at hu'; rw [show off + j = off + j / 4 * 4 + 1 by omega, k1, <- hu']; rfl
  ·rw [e] at hu'; rw [show off + j = off + j / 4 * 4 + 2 by omega, k2, <- hu']; rfl
  ·rw [e] at hu'; rw [show off + j = off + j / 4 * 4 + 3 by omega, k3, <- hu']; rfl
theorem colRow_one (t : List C4) : ∀ u ∈ colRow t, u.oneCell' = true := by
 intro u hu;obtain ⟨c, _, h⟩ := List.mem_flatMap.1 hu;exact C4.cells_one c u h
theorem cloneC_any (b off cap : Nat) (t : List C4) (w : World) (h : RdC w (some ⟨b, off, none⟩) t) (hn : t.length <= 1099511627776) (h0 : 0 < t.length) :
  Calls Tryz.prog 88 #[.slice (some ⟨b, off, none⟩) t.length cap] w (CloneC t w) := by
 obtain ⟨i0, hi, hz0, hz1, hz2⟩ := info_parts infoCol;have hlit := World.ownsRow_lit (e := 41) (size := 4) w #[] 0 (Nat.le_refl _) (by simp) rfl;have H := hd_ h;have Hlit := hd_ hlit;clear h hlit;have HN := hd_ (rdC_news (H.out.below ((Below.refl _ _).alloc (Nat.le_refl _) (.cells #[] 41))));have hsz : (w.alloc (.cells #[] 41)).heap.size = w.heap.size + 1 := by simp
 have Hsz := hd_ hsz;have H0 := hd_ h0;clear hsz h0;have hnil := fun (w : World) => Lib.run_eql_slice_nil (P := Tryz.prog) w 94 41 (some ⟨b, off, none⟩) t.length cap 0 0 Tryz.underlying94
 go_enter Tryz.func88, Tryz.ntmps88
 go_wp2_with (at_builtin; go_must (refine wpList_append_own_at _ rfl _ _ 94 rfl w.heap.size 41 i0 _ 4 8 Tryz.underlying94 hi hz0 hz1 hz2 rfl (by decide) (.slice (some ⟨w.heap.size, 0, none⟩) 0 0) 0 _ rfl Hlit.out ⟨b, off, none⟩ t.length cap (colRow t) rfl (colRow_length t) HN.out (colRow_one t) (by unfold maxLen; omega) (by omega) (by rw [Hsz.out]; omega) ?_; intro v' w1 hown hg hnil hat; have Hown := hd_ hown; have Hg := hd_ hg; clear hown hg hnil hat))
 go_ret
 have ho : OwnC w.heap.size w1 v' t := by
  have := Hown.out;unfold OwnC
  simpa using this
 have hb : Below w.heap.size w w1 := ((Below.refl _ _).alloc (Nat.le_refl _) _).grown Hg.out (by simp) (fun k hk => Nat.le_of_eq (Option.some.inj hk));obtain ⟨g, c, rfl, _⟩ := own_form ho H0.out;exact ⟨g, c, rfl, (World.ownsRow.lt ho g rfl).1, ho, hb⟩
def SidesOk (W H : Int) : Prop := 1 <= W /\ 1 <= H /\ W <= 4096 /\ H <= 4096 /\ W * H <= 65536
theorem gfits_any (W H : Int) (h : SidesOk W H) (w : World) : Calls Tryz.prog 124 #[.int .i64 W, .int .i64 H] w fun e w' => e = .returned (.bool true) /\ w = w' := by
 obtain ⟨h1, h2, h3, h4, h5⟩ := h;obtain ⟨m1, m2, m3⟩ := sides_mul h1 h2 h3 h4;obtain ⟨q, hq⟩ : ∃ q, q = W * H := ⟨_, rfl⟩;have e1 : IntKind.i64.wrap (W * H) = q := by rw [hq]; exact i64i (by omega)
 rw [<- hq] at m1 m2 h5;clear m3 hq;go_enter Tryz.func124, Tryz.ntmps124
 go_wp2
 all_goals
  go_ret
  exact ⟨rfl, rfl⟩
structure GridAt (base : Nat) (w : World) (g : Nat) (W H : Int) (t : List C4) (cb cc : Nat) : Prop where
 lies : base <= g
 head : w.heap[g]? = some (.cells #[.int .i64 W, .int .i64 H, .slice (some ⟨cb, 0, none⟩) t.length cc] 163 (0, 0))
 cells : OwnC base w (.slice (some ⟨cb, 0, none⟩) t.length cc) t
theorem GridAt.below {base : Nat} {w w' : World} {g : Nat} {W H : Int} {t : List C4} {cb cc : Nat} (h : GridAt base w g W H t cb cc) (hb : Below w.heap.size w w') : GridAt base w' g W H t cb cc :=
 ⟨h.lies, (hb.block _ (block_lt h.head)).trans h.head, h.cells.below hb⟩
def GridPost (W H : Int) (t : List C4) (w : World) (e : Ending) (w' : World) : Prop := ∃ g cb cc, e = .returned (.tuple #[.pointer (some ⟨g, 0, none⟩), .int .i64 0]) /\ GridAt w.heap.size w' g W H t cb cc /\ Below w.heap.size w w'
theorem gridOf_any (W H : Int) (hs : SidesOk W H) (b off cap : Nat) (t : List C4) (w : World) (h : RdC w (some ⟨b, off, none⟩) t) (hl : (t.length : Int) = W * H) :
  Calls Tryz.prog 82 #[.int .i64 W, .int .i64 H, .slice (some ⟨b, off, none⟩) t.length cap] w (GridPost W H t w) := by
 have CF := hd_ (gfits_any W H hs w);obtain ⟨h1, h2, h3, h4, h5⟩ := hs;obtain ⟨m1, m2, m3⟩ := sides_mul h1 h2 h3 h4;have e1 : IntKind.i64.wrap (W * H) = (t.length : Int) := by rw [<- hl]; exact i64i (by omega)
 have CC := hd_ (cloneC_any b off cap t w h (by omega) (by omega));clear h m1 m2 m3 h5 hl;go_enter Tryz.func82, Tryz.ntmps82
 go_wp2_with fail
 refine CF.out.mono ?_;rintro e w1 ⟨rfl, rfl⟩;go_wp2_with fail
 refine CC.out.mono ?_;rintro e w2 ⟨g2, c2, rfl, hg2, ho2, hb2⟩;have HO2 := hd_ ho2;have HB2 := hd_ hb2;clear ho2 hb2 CC CF;go_wp2_with fail
 go_ret2
 exact ⟨w2.heap.size, g2, c2, rfl, ⟨HB2.out.size, heap_alloc_new _ _, HO2.out.below ((Below.refl _ _).alloc (Nat.le_refl _) _)⟩, HB2.out.alloc HB2.out.size _⟩
theorem gridH_any {base : Nat} {w : World} {g : Nat} {W H : Int} {t : List C4} {cb cc : Nat} (h : GridAt base w g W H t cb cc) : Calls Tryz.prog 87 #[.pointer (some ⟨g, 0, none⟩)] w fun e w' => e = .returned (.int .i64 H) /\ w' = w := by
 have c0 := (cr_ w 1 h.head (Value.int .i64 H) rfl);clear h;go_enter Tryz.func87, Tryz.ntmps87
 go_wp2_with fail
 go_ret
 exact ⟨rfl, rfl⟩
end Go.Proofs.YthpckmcgbmfmcaaGreatDoor
