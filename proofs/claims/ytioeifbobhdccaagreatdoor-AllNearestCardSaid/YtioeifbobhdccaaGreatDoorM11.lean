/- Strings by codes: what a reader of codes makes of what a writer of codes writes: lists alone. -/
import Derived.Test.YtioeifbobhdccaaGreatDoorM8
namespace Go.Proofs.YtioeifbobhdccaaGreatDoor
namespace lz
/-- how a packing goes -/
structure K where
  clear : Nat
  width : Nat
  early : Nat
structure K.Good (k : K) : Prop where
  big : 4 ≤ k.clear
  most : k.clear ≤ 256
  fits : k.clear + 2 + k.early < 2 ^ k.width
  few : k.early ≤ 1
  low : 1 ≤ k.width
  high : k.width ≤ 12
/-- an entry of the table -/
structure E where
  ahead : Int
  last : Int
  first : Int
  n : Nat
  deriving DecidableEq
def leaf (i : Nat) : E := ⟨-1, (i : Nat), (i : Nat), 1⟩
def entries (k : K) : List E := (List.range k.clear).map leaf ++ [⟨0, 0, 0, 0⟩, ⟨0, 0, 0, 0⟩]
theorem entries_length (k : K) : (entries k).length = k.clear + 2 := by simp [entries]
theorem entries_leaf (k : K) {i : Nat} (h : i < k.clear) : (entries k)[i]? = some (leaf i) := by
  unfold entries
  rw [List.getElem?_append_left (by simpa using h), List.getElem?_map, List.getElem?_range h]
  rfl
theorem entries_sign (k : K) {i : Nat} (h : k.clear ≤ i) (h2 : i < k.clear + 2) : (entries k)[i]? = some ⟨0, 0, 0, 0⟩ := by
  unfold entries
  rw [List.getElem?_append_right (by simpa using h)]
  simp only [List.length_map, List.length_range]
  have : i - k.clear = 0 ∨ i - k.clear = 1 := by omega
  rcases this with e | e <;> rw [e] <;> rfl
/-- the string of a code -/
inductive Str (t : List E) : Nat → List Int → Prop
  | leaf {j : Nat} {b : Int} : t[j]? = some ⟨-1, b, b, 1⟩ → Str t j [b]
  | node {j a : Nat} {b f : Int} {s : List Int} : t[j]? = some ⟨(a : Nat), b, f, s.length + 1⟩ → a < j → Str t a s → s.head? = some f → Str t j (s ++ [b])
theorem getElem?_grown {t u : List E} {j : Nat} {e : E} (h : t[j]? = some e) : (t ++ u)[j]? = some e := by
  have hj := (List.getElem?_eq_some_iff.1 h).1
  rw [List.getElem?_append_left hj, h]
theorem Str.mono {t u : List E} {j : Nat} {s : List Int} (h : Str t j s) : Str (t ++ u) j s := by
  induction h with
  | leaf h => exact .leaf (getElem?_grown h)
  | node h ha _ hf ih => exact .node (getElem?_grown h) ha ih hf
theorem Str.ne {t : List E} {j : Nat} {s : List Int} (h : Str t j s) : s ≠ [] := by cases h <;> simp
theorem Str.entry {t : List E} {j : Nat} {s : List Int} (h : Str t j s) : ∃ e, t[j]? = some e ∧ e.n = s.length ∧ s.head? = some e.first := by
  cases h with
  | leaf h => exact ⟨_, h, rfl, rfl⟩
  | node h ha hs hf =>
    refine ⟨_, h, by simp, ?_⟩
    rw [List.head?_append, hf]
    rfl
theorem Str.lt {t : List E} {j : Nat} {s : List Int} (h : Str t j s) : j < t.length := by
  obtain ⟨e, he, _⟩ := h.entry
  exact (List.getElem?_eq_some_iff.1 he).1
theorem Str.len {t : List E} {j : Nat} {s : List Int} (h : Str t j s) : s.length ≤ j + 1 := by
  induction h with
  | leaf h => simp
  | node h ha hs hf ih => rw [List.length_append, List.length_singleton]; omega
theorem Str.one {t : List E} {j : Nat} {s : List Int} (h : Str t j s) : ∀ {s' : List Int}, Str t j s' → s = s' := by
  induction h with
  | leaf h =>
    intro s' h'
    cases h' with
    | leaf h2 => rw [h] at h2; simp only [Option.some.injEq, E.mk.injEq] at h2; rw [h2.2.1]
    | node h2 _ _ _ => rw [h] at h2; simp only [Option.some.injEq, E.mk.injEq] at h2; omega
  | node h ha hs hf ih =>
    intro s' h'
    cases h' with
    | leaf h2 => rw [h] at h2; simp only [Option.some.injEq, E.mk.injEq] at h2; omega
    | node h2 ha2 hs2 hf2 =>
      rw [h] at h2
      simp only [Option.some.injEq, E.mk.injEq] at h2
      obtain ⟨h3, h4, _⟩ := h2
      obtain rfl : _ = _ := Int.ofNat.inj h3
      rw [ih hs2, h4]
theorem Str.back {t u : List E} {j : Nat} {s : List Int} (h : Str (t ++ u) j s) : j < t.length → Str t j s := by
  generalize hv : t ++ u = v at h
  induction h with
  | leaf h =>
    intro hj
    subst hv
    rw [List.getElem?_append_left hj] at h
    exact .leaf h
  | node h ha hs hf ih =>
    intro hj
    subst hv
    rw [List.getElem?_append_left hj] at h
    exact .node h ha (ih (by omega)) hf
theorem Str.end {t : List E} {j : Nat} {s : List Int} (h : Str t j s) : ∃ e r, t[j]? = some e ∧ s = r ++ [e.last] ∧ ((r = [] ∧ e.ahead = -1) ∨ ∃ a : Nat, e.ahead = (a : Nat) ∧ Str t a r) := by
  cases h with
  | leaf h => exact ⟨_, [], h, rfl, .inl ⟨rfl, rfl⟩⟩
  | node h ha hs hf => exact ⟨_, _, h, rfl, .inr ⟨_, rfl, hs⟩⟩
/-- what is filled from behind -/
def fill (out s : List Int) (m : Nat) : List Int := out ++ List.replicate m 0 ++ s.drop m
theorem fill_length (out s : List Int) {m : Nat} (h : m ≤ s.length) : (fill out s m).length = out.length + s.length := by simp [fill]; omega
theorem fill_start (out s : List Int) : fill out s s.length = out ++ List.replicate s.length 0 := by simp [fill]
theorem fill_end (out s : List Int) : fill out s 0 = out ++ s := by simp [fill]
theorem fill_set (out r d : List Int) (x : Int) : (fill out (r ++ [x] ++ d) (r.length + 1)).set (out.length + r.length) x = fill out (r ++ [x] ++ d) r.length := by
  unfold fill
  have e1 : (r ++ [x] ++ d).drop (r.length + 1) = d := List.drop_left' (by simp)
  have e2 : (r ++ [x] ++ d).drop r.length = x :: d := by rw [List.append_assoc, List.drop_left' rfl]; rfl
  rw [e1, e2, List.replicate_succ', List.append_assoc, List.append_assoc, List.append_assoc, List.set_append_right _ _ (by omega), Nat.add_sub_cancel_left, List.set_append_right _ _ (by simp)]
  simp
/-- bytes alone -/
def Byt (t : List E) : Prop := ∀ e ∈ t, (0 ≤ e.last ∧ e.last < 256) ∧ (0 ≤ e.first ∧ e.first < 256)

/-- a reader's state -/
structure St where
  tab : List E
  width : Nat
  ahead : Option Nat
  out : List Int
def start (k : K) (out : List Int) : St := ⟨entries k, k.width, none, out⟩
def bump (k : K) (len width : Nat) : Nat := if len + k.early = 2 ^ width ∧ width < 12 then width + 1 else width
def hd (s : List Int) : Int := s.head?.getD 0
theorem hd_of {s : List Int} {f : Int} (h : s.head? = some f) : hd s = f := by unfold hd; rw [h]; rfl
theorem hd_append {s t : List Int} (h : s ≠ []) : hd (s ++ t) = hd s := by cases s with
  | nil => exact absurd rfl h
  | cons x r => rfl
/-- one code -/
def Step (k : K) (st : St) (c n : Nat) (st' : St) : Prop :=
  n = st.width ∧ ((c = k.clear ∧ st' = start k st.out) ∨ (c ≠ k.clear ∧ c ≠ k.clear + 1 ∧ ∃ s, Str st'.tab c s ∧ st'.out = st.out ++ s ∧ st'.ahead = some c ∧
    match st.ahead with
    | none => c < k.clear ∧ st'.tab = st.tab ∧ st'.width = st.width
    | some a => c ≤ st.tab.length ∧ st.tab.length < 4096 ∧ ∃ sa, Str st.tab a sa ∧ st'.tab = st.tab ++ [⟨(a : Nat), hd s, hd sa, sa.length + 1⟩] ∧ st'.width = bump k (st.tab.length + 1) st.width))
inductive Runs (k : K) : St → List (Nat × Nat) → St → Prop
  | nil {st : St} : Runs k st [] st
  | cons {st st' st'' : St} {c n : Nat} {r : List (Nat × Nat)} : Step k st c n st' → Runs k st' r st'' → Runs k st ((c, n) :: r) st''
theorem Runs.snoc {k : K} {st st' st'' : St} {r : List (Nat × Nat)} {c n : Nat} (h : Runs k st r st') (hs : Step k st' c n st'') : Runs k st (r ++ [(c, n)]) st'' := by
  induction h with
  | nil => exact .cons hs .nil
  | cons h1 _ ih => exact .cons h1 (ih hs)
/-- what is put out only grows -/
theorem Step.out {k : K} {st st' : St} {c n : Nat} (h : Step k st c n st') : ∃ s, st'.out = st.out ++ s := by
  obtain ⟨_, h | ⟨_, _, s, _, h, _⟩⟩ := h
  · exact ⟨[], by rw [h.2]; simp [start]⟩
  · exact ⟨s, h⟩
theorem Runs.out {k : K} {st st' : St} {r : List (Nat × Nat)} (h : Runs k st r st') : ∃ s, st'.out = st.out ++ s := by
  induction h with
  | nil => exact ⟨[], by simp⟩
  | cons h1 _ ih =>
    obtain ⟨s1, e1⟩ := h1.out
    obtain ⟨s2, e2⟩ := ih
    exact ⟨s1 ++ s2, by rw [e2, e1, List.append_assoc]⟩
/-- codes that fit their widths -/
def Fits (T : List (Nat × Nat)) : Prop := ∀ q ∈ T, q.1 < 2 ^ q.2 ∧ q.2 ≤ 12
theorem Fits.snoc {T : List (Nat × Nat)} (h : Fits T) {c n : Nat} (h1 : c < 2 ^ n) (h2 : n ≤ 12) : Fits (T ++ [(c, n)]) := by
  intro q hq
  rcases List.mem_append.1 hq with hq | hq
  · exact h q hq
  · rw [List.mem_singleton.1 hq]
    exact ⟨h1, h2⟩
/-- a writer between two bytes: what it has written, what the reader then knows, what it will know with the next code -/
structure Wr (k : K) (T : List (Nat × Nat)) (st : St) (V : List E) (c : Nat) (s : List Int) (codes : Nat → Int → Option Nat) : Prop where
  runs : Runs k (start k []) T st
  fits : Fits T
  less : st.tab.length < 4090
  wide : st.tab.length + k.early < 2 ^ st.width
  most : st.width ≤ 12
  virt : match st.ahead with
    | none => V = st.tab ∧ c < k.clear
    | some a => ∃ sa, Str st.tab a sa ∧ V = st.tab ++ [⟨(a : Nat), hd s, hd sa, sa.length + 1⟩]
  low : ∃ u, V = entries k ++ u
  str : Str V c s
  map : ∀ p x c', codes p x = some c' → ∃ sp, Str V p sp ∧ Str V c' (sp ++ [x])
  bytes : Byt V
  bare : st.ahead = none → ∀ p x, codes p x = none
theorem Wr.head {k : K} {T : List (Nat × Nat)} {st : St} {V : List E} {c : Nat} {s : List Int} {codes : Nat → Int → Option Nat} (h : Wr k T st V c s codes) : ∃ f, s.head? = some f ∧ 0 ≤ f ∧ f < 256 := by
  obtain ⟨e, he, _, hf⟩ := h.str.entry
  exact ⟨e.first, hf, (h.bytes e (List.mem_of_getElem? he)).2⟩
theorem Wr.notSign {k : K} {T : List (Nat × Nat)} {st : St} {V : List E} {c : Nat} {s : List Int} {codes : Nat → Int → Option Nat} (h : Wr k T st V c s codes) : c ≠ k.clear ∧ c ≠ k.clear + 1 := by
  obtain ⟨u, hu⟩ := h.low
  obtain ⟨e, he, hn, _⟩ := h.str.entry
  have hne := h.str.ne
  have key : ∀ i, k.clear ≤ i → i < k.clear + 2 → c ≠ i := by
    intro i h1 h2 e'
    subst e'
    rw [hu, getElem?_grown (entries_sign k h1 h2)] at he
    cases he
    exact hne (List.eq_nil_of_length_eq_zero hn.symm)
  exact ⟨key _ (Nat.le_refl _) (by omega), key _ (by omega) (by omega)⟩
theorem Wr.virtLen {k : K} {T : List (Nat × Nat)} {st : St} {V : List E} {c : Nat} {s : List Int} {codes : Nat → Int → Option Nat} (h : Wr k T st V c s codes) : V.length = st.tab.length + (if st.ahead.isSome then 1 else 0) := by
  have := h.virt
  cases ha : st.ahead with
  | none => rw [ha] at this; rw [this.1]; rfl
  | some a =>
    rw [ha] at this
    obtain ⟨sa, _, e⟩ := this
    rw [e]
    simp
theorem Wr.tab_le {k : K} {T : List (Nat × Nat)} {st : St} {V : List E} {c : Nat} {s : List Int} {codes : Nat → Int → Option Nat} (h : Wr k T st V c s codes) : k.clear + 2 ≤ V.length := by
  obtain ⟨u, hu⟩ := h.low
  rw [hu, List.length_append, entries_length]
  omega
/-- the code fits -/
theorem Wr.code {k : K} {T : List (Nat × Nat)} {st : St} {V : List E} {c : Nat} {s : List Int} {codes : Nat → Int → Option Nat} (h : Wr k T st V c s codes) : c < 2 ^ st.width := by
  have h1 := h.str.lt
  have h2 := h.virtLen
  have h3 := h.wide
  split at h2 <;> omega
/-- a byte more, a string that is known -/
theorem Wr.known {k : K} {T : List (Nat × Nat)} {st : St} {V : List E} {c : Nat} {s : List Int} {codes : Nat → Int → Option Nat} (h : Wr k T st V c s codes) {x : Int} {c' : Nat} (hc : codes c x = some c') :
    Wr k T st V c' (s ++ [x]) codes := by
  obtain ⟨sp, h1, h2⟩ := h.map _ _ _ hc
  obtain rfl := h1.one h.str
  have hv := h.virt
  refine ⟨h.runs, h.fits, h.less, h.wide, h.most, ?_, h.low, h2, h.map, h.bytes, h.bare⟩
  cases ha : st.ahead with
  | none =>
    rw [h.bare ha] at hc
    cases hc
  | some a =>
    rw [ha] at hv
    obtain ⟨sa, e1, e2⟩ := hv
    refine ⟨sa, e1, ?_⟩
    rw [hd_append h1.ne]
    exact e2
/-- the reader's state behind the next code -/
def after (k : K) (st : St) (V : List E) (c : Nat) (s : List Int) : St := ⟨V, if st.ahead.isSome then bump k V.length st.width else st.width, some c, st.out ++ s⟩
theorem Wr.step {k : K} {T : List (Nat × Nat)} {st : St} {V : List E} {c : Nat} {s : List Int} {codes : Nat → Int → Option Nat} (h : Wr k T st V c s codes) : Step k st c st.width (after k st V c s) := by
  have hv := h.virt
  have hns := h.notSign
  refine ⟨rfl, .inr ⟨hns.1, hns.2, s, h.str, rfl, rfl, ?_⟩⟩
  cases ha : st.ahead with
  | none =>
    rw [ha] at hv
    exact ⟨hv.2, hv.1, by unfold after; rw [ha]; rfl⟩
  | some a =>
    rw [ha] at hv
    obtain ⟨sa, e1, e2⟩ := hv
    have hl := h.virtLen
    rw [ha] at hl
    have hc := h.str.lt
    have hless := h.less
    simp only [Option.isSome_some, if_true] at hl
    refine ⟨by omega, by omega, sa, e1, e2, ?_⟩
    unfold after
    rw [ha]
    simp only [Option.isSome_some, if_true, hl]
theorem bump_wide {k : K} (hk : k.Good) {len width : Nat} (h : len + k.early < 2 ^ width) (h1 : len + 1 ≤ 4090) (hw : width ≤ 12) : len + 1 + k.early < 2 ^ bump k (len + 1) width ∧ bump k (len + 1) width ≤ 12 := by
  have hf := hk.few
  unfold bump
  split
  · rename_i e
    have : 2 ^ width ≥ 1 := Nat.one_le_two_pow
    rw [Nat.pow_succ]
    refine ⟨?_, by omega⟩
    have : (2:Nat) ^ width ≥ 1 := Nat.one_le_two_pow
    have h5 : 5 ≤ 2 ^ width ∨ 2 ^ width < 5 := by omega
    omega
  · rename_i e
    refine ⟨?_, hw⟩
    rcases Nat.lt_or_ge width 12 with h2 | h2
    · have : ¬ len + 1 + k.early = 2 ^ width := fun e' => e ⟨e', h2⟩
      omega
    · have : width = 12 := by omega
      subst this
      omega
/-- a string that is not known: its ahead is written; the next string begins -/
theorem Wr.fresh {k : K} (hk : k.Good) {T : List (Nat × Nat)} {st : St} {V : List E} {c : Nat} {s : List Int} {codes : Nat → Int → Option Nat} (h : Wr k T st V c s codes) {x : Nat} (hx : x < k.clear) (hnext : V.length < 4090)
    (codes' : Nat → Int → Option Nat) (hcodes : ∀ p y c', codes' p y = some c' → (p = c ∧ y = (x : Nat) ∧ c' = V.length) ∨ codes p y = some c') :
    Wr k (T ++ [(c, st.width)]) (after k st V c s) (V ++ [⟨(c : Nat), (x : Nat), hd s, s.length + 1⟩]) x [((x : Nat) : Int)] codes' := by
  have hl := h.virtLen
  have hb : V.length + k.early < 2 ^ (after k st V c s).width ∧ (after k st V c s).width ≤ 12 := by
    unfold after
    dsimp only
    split at hl
    · rename_i hs
      rw [if_pos hs, hl]
      exact bump_wide hk h.wide (by omega) h.most
    · rename_i hs
      rw [if_neg hs, hl]
      exact ⟨h.wide, h.most⟩
  obtain ⟨u, hu⟩ := h.low
  have hhd := h.head
  obtain ⟨f, hf, hf0, hf1⟩ := hhd
  have hnew : Str (V ++ [⟨(c : Nat), (x : Nat), hd s, s.length + 1⟩]) V.length (s ++ [((x : Nat) : Int)]) := by
    refine .node (f := hd s) (by rw [List.getElem?_append_right (Nat.le_refl _), Nat.sub_self]; rfl) h.str.lt h.str.mono ?_
    rw [hd_of hf, hf]
  have hm := hk.most
  refine ⟨h.runs.snoc h.step, h.fits.snoc h.code h.most, hnext, hb.1, hb.2, ⟨s, h.str, rfl⟩, ⟨u ++ [_], by rw [hu, List.append_assoc]⟩, ?_, ?_, ?_, (fun e => nomatch e)⟩
  · refine .leaf ?_
    rw [hu, List.append_assoc]
    exact getElem?_grown (entries_leaf k hx)
  · intro p y c' hc
    rcases hcodes p y c' hc with ⟨rfl, rfl, rfl⟩ | hc
    · exact ⟨s, h.str.mono, hnew⟩
    · obtain ⟨sp, h1, h2⟩ := h.map _ _ _ hc
      exact ⟨sp, h1.mono, h2.mono⟩
  · intro e he
    rcases List.mem_append.1 he with he | he
    · exact h.bytes e he
    · rw [List.mem_singleton.1 he]
      dsimp only
      rw [hd_of hf]
      omega
theorem byt_entries {k : K} (hk : k.Good) : Byt (entries k) := by
  have := hk.most
  intro e he
  unfold entries at he
  rcases List.mem_append.1 he with he | he
  · obtain ⟨i, hi, rfl⟩ := List.mem_map.1 he
    have := List.mem_range.1 hi
    simp only [leaf]
    omega
  · simp at he
    rw [he]
    simp
/-- a table that is new -/
theorem wr_start {k : K} (hk : k.Good) {T : List (Nat × Nat)} {out : List Int} (hr : Runs k (start k []) T (start k out)) (hT : Fits T) {x : Nat} (hx : x < k.clear) :
    Wr k T (start k out) (entries k) x [((x : Nat) : Int)] (fun _ _ => none) := by
  have h1 := hk.most
  have h2 := hk.fits
  refine ⟨hr, hT, ?_, ?_, hk.high, ⟨rfl, hx⟩, ⟨[], by simp⟩, .leaf (entries_leaf k hx), (fun _ _ _ h => nomatch h), byt_entries hk, fun _ _ _ => rfl⟩
  · show (entries k).length < 4090
    rw [entries_length]; omega
  · show (entries k).length + k.early < 2 ^ k.width
    rw [entries_length]; exact h2
/-- a string that is not known, and the table is full -/
theorem Wr.full {k : K} (hk : k.Good) {T : List (Nat × Nat)} {st : St} {V : List E} {c : Nat} {s : List Int} {codes : Nat → Int → Option Nat} (h : Wr k T st V c s codes) {x : Nat} (hx : x < k.clear) :
    Wr k (T ++ [(c, st.width)] ++ [(k.clear, (after k st V c s).width)]) (start k (st.out ++ s)) (entries k) x [((x : Nat) : Int)] (fun _ _ => none) := by
  have hb : k.clear < 2 ^ (after k st V c s).width ∧ (after k st V c s).width ≤ 12 := by
    have hl := h.virtLen
    have hle := h.tab_le
    have h3 := h.less
    unfold after
    dsimp only
    split at hl
    · rename_i hs
      rw [if_pos hs, hl]
      have := bump_wide hk h.wide (by omega) h.most
      omega
    · rename_i hs
      rw [if_neg hs]
      have := h.wide
      exact ⟨by omega, h.most⟩
  exact wr_start hk ((h.runs.snoc h.step).snoc ⟨rfl, .inl ⟨rfl, rfl⟩⟩) ((h.fits.snoc h.code h.most).snoc hb.1 hb.2) hx
/-- all that was written tells out -/
def Tells (k : K) (T : List (Nat × Nat)) (out : List Int) : Prop := ∃ T0 st, T = T0 ++ [(k.clear + 1, st.width)] ∧ Runs k (start k []) T0 st ∧ st.out = out ∧ Fits T
theorem Wr.tells {k : K} (hk : k.Good) {T : List (Nat × Nat)} {st : St} {V : List E} {c : Nat} {s : List Int} {codes : Nat → Int → Option Nat} (h : Wr k T st V c s codes) :
    Tells k (T ++ [(c, st.width)] ++ [(k.clear + 1, (after k st V c s).width)]) (st.out ++ s) := by
  have hb : k.clear + 1 < 2 ^ (after k st V c s).width ∧ (after k st V c s).width ≤ 12 := by
    have hl := h.virtLen
    have hle := h.tab_le
    have h3 := h.less
    unfold after
    dsimp only
    split at hl
    · rename_i hs
      rw [if_pos hs, hl]
      have := bump_wide hk h.wide (by omega) h.most
      omega
    · rename_i hs
      rw [if_neg hs]
      have := h.wide
      exact ⟨by omega, h.most⟩
  exact ⟨_, _, rfl, h.runs.snoc h.step, rfl, (h.fits.snoc h.code h.most).snoc hb.1 hb.2⟩
theorem tells_none {k : K} (hk : k.Good) : Tells k [(k.clear, k.width), (k.clear + 1, k.width)] [] := by
  have h1 := hk.fits
  have h2 := hk.high
  refine ⟨[(k.clear, k.width)], start k [], rfl, .cons ⟨rfl, .inl ⟨rfl, rfl⟩⟩ .nil, rfl, ?_⟩
  intro q hq
  simp only [List.mem_cons, List.not_mem_nil, or_false] at hq
  rcases hq with rfl | rfl
  · exact ⟨by dsimp only; omega, h2⟩
  · exact ⟨by dsimp only; omega, h2⟩
/-- the codes as bits -/
def bitsOfAll (up : Bool) (T : List (Nat × Nat)) : List Bool := T.flatMap fun q => bt.bitsOf up q.1 q.2
theorem bitsOfAll_snoc (up : Bool) (T : List (Nat × Nat)) (c n : Nat) : bitsOfAll up (T ++ [(c, n)]) = bitsOfAll up T ++ bt.bitsOf up c n := by simp [bitsOfAll]
theorem bitsOfAll_cons (up : Bool) (T : List (Nat × Nat)) (c n : Nat) : bitsOfAll up ((c, n) :: T) = bt.bitsOf up c n ++ bitsOfAll up T := by simp [bitsOfAll]
end lz
end Go.Proofs.YtioeifbobhdccaaGreatDoor
