/- The law PointsOwn, walked. -/
import Derived.Test.YtdemndjenlhahaaLawA
namespace Go.Proofs.Ytdemndjenlhahaa
open Go.RowKit Go.Sort Go.ChangeShapes Go.WideShapes

theorem apL_le (op : ByteArray) (a : List Int) (W H : Int) (m : Nat) (l : List Int) : (apL op a W H m l).length ≤ l.length := by
  unfold apL
  split
  · unfold pm.applyOut
    split
    · rw [pm.out_length]; omega
    · exact Nat.zero_le _
  · exact Nat.zero_le _
def TupO (base : Nat) (E W H : Int) (L : List Int) (v : Value) (w : World) : Prop := ∃ p cap, v = .tuple #[.agg #[.int .i64 W, .int .i64 H, .slice p L.length cap], .int .i64 E] ∧ w.ownsRow base 31 1 (.slice p L.length cap) L.length (L.map (Value.int .u16))
theorem TupO.below {base : Nat} {E W H : Int} {L : List Int} {v : Value} {w w' : World} (h : TupO base E W H L v w) (hb : Below w.heap.size w w') : TupO base E W H L v w' := by
  obtain ⟨g, cap, h1, h2⟩ := h
  exact ⟨g, cap, h1, ownsRow_below h2 hb⟩
def ImgO (base : Nat) (W H : Int) (L : List Int) (v : Value) (w : World) : Prop := ∃ p cap, v = .agg #[.int .i64 W, .int .i64 H, .slice p L.length cap] ∧ w.ownsRow base 31 1 (.slice p L.length cap) L.length (L.map (Value.int .u16))
theorem ImgO.below {base : Nat} {W H : Int} {L : List Int} {v : Value} {w w' : World} (h : ImgO base W H L v w) (hb : Below w.heap.size w w') : ImgO base W H L v w' := by
  obtain ⟨g, cap, h1, h2⟩ := h
  exact ⟨g, cap, h1, ownsRow_below h2 hb⟩
def ImgOAt (base : Nat) (W H : Int) (L : List Int) (v : Value) (w : World) : Prop := ∃ g p cap, v = .pointer (some ⟨g, 0, none⟩) ∧ base ≤ g ∧ w.heap[g]? = some (.cells #[.int .i64 W, .int .i64 H, .slice p L.length cap] 41) ∧ w.ownsRow base 31 1 (.slice p L.length cap) L.length (L.map (Value.int .u16))
theorem ImgOAt.below {base : Nat} {W H : Int} {L : List Int} {v : Value} {w w' : World} (h : ImgOAt base W H L v w) (hb : Below w.heap.size w w') : ImgOAt base W H L v w' := by
  obtain ⟨g, p, cap, h1, h2, h3, h4⟩ := h
  exact ⟨g, p, cap, h1, h2, (hb.block _ (block_lt h3)).trans h3, ownsRow_below h4 hb⟩
/-- an owned row is no block of another type -/
theorem row_apart {w : World} {base : Nat} {e : TypeId} {size : Nat} {v : Value} {n : Nat} {xs : List Value} {b : Nat} {cs : Array Value} {t : TypeId} (h : w.ownsRow base e size v n xs) (hb : w.heap[b]? = some (.cells cs t (0, 0))) (ht : t ≠ e) : v.ownBlock = none ∨ v.ownBlock ≠ some b := by
  rcases h.2 with ⟨rfl, _⟩ | ⟨g, cap', cur, rfl, _, hg, _⟩
  · exact .inl rfl
  · refine .inr fun e' => ?_
    have h2 : g = b := Option.some.inj e'
    rw [h2, hb] at hg
    simp only [Option.some.injEq, Obj.cells.injEq] at hg
    exact ht hg.2.1
theorem row_setRow {w : World} {base : Nat} {e : TypeId} {size : Nat} {v : Value} {n : Nat} {xs : List Value} {b : Nat} {cs : Array Value} {t : TypeId} (h : w.ownsRow base e size v n xs) (hb : w.heap[b]? = some (.cells cs t (0, 0))) (ht : t ≠ e) (cs' : Array Value) : (w.setRow b cs').ownsRow base e size v n xs :=
  World.ownsRow.kept h (grownBy_setRow w b cs') (row_apart h hb ht)
/-- what Apply answers, its row its own -/
def AppOwn (E W H : Int) (L : List Int) (w : World) (e : Ending) (w' : World) : Prop :=
  ∃ p cap, e = .returned (.tuple #[.agg #[.int .i64 W, .int .i64 H, .slice p L.length cap], .int .i64 E]) ∧ w'.ownsRow w.heap.size 31 1 (.slice p L.length cap) L.length (L.map (Value.int .u16)) ∧ Below w.heap.size w w'
theorem ApplyPost.own {op : ByteArray} {a : List Int} {W H : Int} {m : Nat} {l : List Int} {w w' : World} {e : Ending} (hu : u16s l) (h : ApplyPost op a W H m l w e w') : AppOwn (pm.applyErr op a W H m) (apW op a W H m) (apH op a W H m) (apL op a W H m l) w e w' := by
  obtain ⟨p, n, cap, he, hr, hb⟩ := h
  obtain ⟨rfl, hs⟩ := sl_of_row hr (apL_wf hu)
  exact ⟨p, cap, he, hr, hb⟩

theorem slot_of {t : Array Value} {k : Nat} {v : Value} (h : t[k]? = some v) : (fun i => t.getD i undef) k = v := by
  simp [h]
theorem slots_all {t : Array Value} {n : Nat} (h : t.size = n) : t = ((List.range n).map fun i => t.getD i undef).toArray := by
  apply Array.ext
  · simp [h]
  · intro i h1 h2
    simp [h1]
theorem slots_125 {t : Array Value} (h : t.size = 125) : t = #[(fun i => t.getD i undef) 0, (fun i => t.getD i undef) 1, (fun i => t.getD i undef) 2, (fun i => t.getD i undef) 3, (fun i => t.getD i undef) 4, (fun i => t.getD i undef) 5, (fun i => t.getD i undef) 6, (fun i => t.getD i undef) 7, (fun i => t.getD i undef) 8, (fun i => t.getD i undef) 9, (fun i => t.getD i undef) 10, (fun i => t.getD i undef) 11, (fun i => t.getD i undef) 12, (fun i => t.getD i undef) 13, (fun i => t.getD i undef) 14, (fun i => t.getD i undef) 15, (fun i => t.getD i undef) 16, (fun i => t.getD i undef) 17, (fun i => t.getD i undef) 18, (fun i => t.getD i undef) 19, (fun i => t.getD i undef) 20, (fun i => t.getD i undef) 21, (fun i => t.getD i undef) 22, (fun i => t.getD i undef) 23, (fun i => t.getD i undef) 24, (fun i => t.getD i undef) 25, (fun i => t.getD i undef) 26, (fun i => t.getD i undef) 27, (fun i => t.getD i undef) 28, (fun i => t.getD i undef) 29, (fun i => t.getD i undef) 30, (fun i => t.getD i undef) 31, (fun i => t.getD i undef) 32, (fun i => t.getD i undef) 33, (fun i => t.getD i undef) 34, (fun i => t.getD i undef) 35, (fun i => t.getD i undef) 36, (fun i => t.getD i undef) 37, (fun i => t.getD i undef) 38, (fun i => t.getD i undef) 39, (fun i => t.getD i undef) 40, (fun i => t.getD i undef) 41, (fun i => t.getD i undef) 42, (fun i => t.getD i undef) 43, (fun i => t.getD i undef) 44, (fun i => t.getD i undef) 45, (fun i => t.getD i undef) 46, (fun i => t.getD i undef) 47, (fun i => t.getD i undef) 48, (fun i => t.getD i undef) 49, (fun i => t.getD i undef) 50, (fun i => t.getD i undef) 51, (fun i => t.getD i undef) 52, (fun i => t.getD i undef) 53, (fun i => t.getD i undef) 54, (fun i => t.getD i undef) 55, (fun i => t.getD i undef) 56, (fun i => t.getD i undef) 57, (fun i => t.getD i undef) 58, (fun i => t.getD i undef) 59, (fun i => t.getD i undef) 60, (fun i => t.getD i undef) 61, (fun i => t.getD i undef) 62, (fun i => t.getD i undef) 63, (fun i => t.getD i undef) 64, (fun i => t.getD i undef) 65, (fun i => t.getD i undef) 66, (fun i => t.getD i undef) 67, (fun i => t.getD i undef) 68, (fun i => t.getD i undef) 69, (fun i => t.getD i undef) 70, (fun i => t.getD i undef) 71, (fun i => t.getD i undef) 72, (fun i => t.getD i undef) 73, (fun i => t.getD i undef) 74, (fun i => t.getD i undef) 75, (fun i => t.getD i undef) 76, (fun i => t.getD i undef) 77, (fun i => t.getD i undef) 78, (fun i => t.getD i undef) 79, (fun i => t.getD i undef) 80, (fun i => t.getD i undef) 81, (fun i => t.getD i undef) 82, (fun i => t.getD i undef) 83, (fun i => t.getD i undef) 84, (fun i => t.getD i undef) 85, (fun i => t.getD i undef) 86, (fun i => t.getD i undef) 87, (fun i => t.getD i undef) 88, (fun i => t.getD i undef) 89, (fun i => t.getD i undef) 90, (fun i => t.getD i undef) 91, (fun i => t.getD i undef) 92, (fun i => t.getD i undef) 93, (fun i => t.getD i undef) 94, (fun i => t.getD i undef) 95, (fun i => t.getD i undef) 96, (fun i => t.getD i undef) 97, (fun i => t.getD i undef) 98, (fun i => t.getD i undef) 99, (fun i => t.getD i undef) 100, (fun i => t.getD i undef) 101, (fun i => t.getD i undef) 102, (fun i => t.getD i undef) 103, (fun i => t.getD i undef) 104, (fun i => t.getD i undef) 105, (fun i => t.getD i undef) 106, (fun i => t.getD i undef) 107, (fun i => t.getD i undef) 108, (fun i => t.getD i undef) 109, (fun i => t.getD i undef) 110, (fun i => t.getD i undef) 111, (fun i => t.getD i undef) 112, (fun i => t.getD i undef) 113, (fun i => t.getD i undef) 114, (fun i => t.getD i undef) 115, (fun i => t.getD i undef) 116, (fun i => t.getD i undef) 117, (fun i => t.getD i undef) 118, (fun i => t.getD i undef) 119, (fun i => t.getD i undef) 120, (fun i => t.getD i undef) 121, (fun i => t.getD i undef) 122, (fun i => t.getD i undef) 123, (fun i => t.getD i undef) 124] := slots_all h
theorem row_ne {w : World} {base g b n n' cap : Nat} {e t : TypeId} {xs : List Value} {cs : Array Value} {size : Nat} (h : w.ownsRow base e size (.slice (some ⟨g, 0, none⟩) n cap) n' xs) (hb : w.heap[b]? = some (.cells cs t (0, 0))) (ht : t ≠ e) : g ≠ b := by
  rcases row_apart h hb ht with h' | h'
  · cases h'
  · intro e'; subst e'; exact h' rfl
/-- two owned rows of different types lie apart -/
theorem rows_ne {w : World} {base base' g n m' cap size size' : Nat} {e e' : TypeId} {xs xs' : List Value} {v : Value} (h : w.ownsRow base e size v m' xs) (h' : w.ownsRow base' e' size' (.slice (some ⟨g, 0, none⟩) n cap) n xs') (ht : e' ≠ e) : v.ownBlock = none ∨ v.ownBlock ≠ some g := by
  rcases h'.2 with ⟨h1, _⟩ | ⟨g1, cap1, cur, h1, _, hg, _⟩
  · simp at h1
  · simp only [Value.slice.injEq, Option.some.injEq, Addr.mk.injEq, and_true, true_and] at h1
    obtain ⟨rfl, rfl⟩ := h1
    exact row_apart h hg ht
theorem sl_prefix {k : IntKind} {w : World} {p : Option Addr} {n cap : Nat} {l : List Int} {x : Int} (h : Sl k w p (n + 1) cap (l ++ [x])) (hl : l.length = n) : Sl k w p n cap l := by
  refine ⟨hl, Nat.le_of_succ_le h.fits, h.most, h.bare, fun y hy => h.wf y (List.mem_append.2 (.inl hy)), ?_⟩
  have := h.rd.take n
  rwa [List.take_left' hl] at this

set_option maxRecDepth 100000 in
set_option maxHeartbeats 6400000 in
theorem pointsOwn_walk (op : ByteArray) (a : Option Addr) (n cap : Nat) (l : List Int) (W H : Int) (q : Option Addr) (m mcap : Nat) (px : List Int) (w : World) (s : Sl .i64 w a n cap l) (z : cap * Try.prog.bytesOf 3 ≤ reachBytes) (sm : Sl .u16 w q m mcap px) (zm : mcap * Try.prog.bytesOf 31 ≤ reachBytes) :
    Calls Try.prog 7 #[.string op, .slice a n cap, .agg #[.int .i64 W, .int .i64 H, .slice q m mcap]] w fun e w' => e = .returned (.bool true) ∧ Below w.heap.size w w' := by
  have z1 := reach_int z
  have z2 := reach_u16 zm
  have hn : n ≤ 17592186044416 := by have := s.fits; omega
  have hn8 : n * 8 ≤ 140737488351232 := by have := s.fits; omega
  have hm2 : m * 2 ≤ 140737488355328 := by have := sm.fits; omega
  have HA := Lib.hid s
  have HM := Lib.hid sm
  have HL : Hid (px.length = m) := Lib.hid sm.len
  have HLn : Hid (l.length = n) := Lib.hid s.len
  clear s z sm zm z1 z2
  obtain ⟨E', hE⟩ : ∃ x, pm.applyErr op l W H m = x := ⟨_, rfl⟩
  obtain ⟨W', hW⟩ : ∃ x, apW op l W H m = x := ⟨_, rfl⟩
  obtain ⟨H', hH⟩ : ∃ x, apH op l W H m = x := ⟨_, rfl⟩
  obtain ⟨L, hLx⟩ : ∃ x, apL op l W H m px = x := ⟨_, rfl⟩
  have HLU : Hid (u16s L) := Lib.hid (by rw [← hLx]; exact apL_wf HM.out.u16s)
  have HLB : Hid (L.length ≤ 140737488355328) := Lib.hid (by rw [← hLx]; have h1 := apL_le op l W H m px; have h2 := HL.out; omega)
  have HAP0 : Hid (∀ p1 cap1 p2 cap2 u, Sl .i64 u p1 n cap1 l → Sl .u16 u p2 m cap2 px → Calls Try.prog 15 #[.string op, .slice p1 n cap1, .agg #[.int .i64 W, .int .i64 H, .slice p2 m cap2]] u (AppOwn E' W' H' L u)) := Lib.hid (fun p1 cap1 p2 cap2 u h1 h2 => by
    rw [← hE, ← hW, ← hH, ← hLx]
    exact (apply_any op p1 n cap1 l W H p2 m cap2 px u h1 h2 h2.u16s).mono (fun _ _ h => ApplyPost.own h2.u16s h))
  have HRF : Hid (∀ u, Sl .i64 u a n cap l → Sl .u16 u q m mcap px → Calls Try.prog 17 #[.string op, .slice a n cap, .agg #[.int .i64 W, .int .i64 H, .slice q m mcap]] u (AppRes E' W' H' L u)) := Lib.hid (fun u h1 h2 => by
    rw [← hE, ← hW, ← hH, ← hLx]
    exact (refapply_any op a n cap l W H q m mcap px u h1 hn h2).mono (fun _ _ h => ApplyPost.res h2.u16s h))
  clear hE hW hH hLx
  go_enter Try.func7, Try.ntmps7
  go_wp2_with fail
  refine (wakes_any _).mono ?_
  rintro e w1 ⟨rfl, hb⟩
  have Q1 := Lib.hid ((hb.block _ (block_lt (heap_alloc_last w (.cells #[.int .i64 W, .int .i64 H, .slice q m mcap] 41)))).trans (heap_alloc_last w _))
  have B1 := Lib.hid (((Below.refl w.heap.size w).alloc (Nat.le_refl _) (.cells #[.int .i64 W, .int .i64 H, .slice q m mcap] 41)).trans (hb.mono (by simp)))
  clear hb
  go_wp2_with (with_reducible refine wpList_load_row rfl 41 _ rfl w.heap.size rfl 41 _ (0, 0) _ Q1.out Try.underlying41 rfl (imgSize3 _ _ _) ?_)
  refine (ownImg_any W H q m mcap px _ (HM.out.below B1.out) hm2).mono ?_
  rintro e w2 ⟨gi, ci, rfl, hgi, hown, hb⟩
  rw [HL.out] at hown ⊢
  have B2 := Lib.hid (B1.out.trans (hb.mono B1.out.size))
  have Q2 := Lib.hid ((hb.block _ (block_lt Q1.out)).trans Q1.out)
  have OI := Lib.hid hown
  clear hb hown
  go_wp2_with fail
  refine (ownI_any a n cap l _ (HA.out.below B2.out) (by omega)).mono ?_
  rintro e w3 ⟨v3, rfl, ⟨g3, cap3, rfl, hg3, hown⟩, hb⟩
  have B3 := Lib.hid (B2.out.trans (hb.mono B2.out.size))
  have Q3 := Lib.hid ((hb.block _ (block_lt Q2.out)).trans Q2.out)
  have OI3 := Lib.hid (ownsRow_below OI.out hb)
  have OA := Lib.hid hown
  have SZ3 : w2.heap.size ≤ w3.heap.size := hb.size
  clear hb hown
  obtain ⟨i0, hi, hz0, hz1, hz2⟩ := info_parts infoInt0
  have HRU := Lib.hid (OA.out.alloc (.cells #[.int .i64 77] 3))
  have HNW : Hid (∀ j u, ([.int .i64 77] : List Value)[j]? = some u → (w3.alloc (.cells #[.int .i64 77] 3)).cell? ((⟨w3.heap.size, 0, none⟩ : Addr).add j) = some u) := Lib.hid (news_alloc w3 [.int .i64 77] 3)
  have SZU : w2.heap.size ≤ (w3.alloc (.cells #[.int .i64 77] 3)).heap.size := by simp; omega
  go_wp2_with (first
    | (at_builtin; go_must (refine wpList_append_own _ rfl _ _ 22 rfl w2.heap.size 3 i0 (.int .i64 0) 1 8 Try.underlying22 hi hz0 hz1 hz2 rfl (by decide) (.slice (some ⟨g3, 0, none⟩) n cap3) n _ rfl HRU.out ⟨w3.heap.size, 0, none⟩ 1 1 [.int .i64 77] rfl rfl HNW.out (by simp [Value.oneCell']) (by unfold maxLen; omega) (by omega) SZU ?_; intro v' w4 hown hg hnil; obtain ⟨gb, cb, rfl⟩ := row_form hown (fun e => absurd (hnil.1 e).2 (by decide)); have OB := Lib.hid hown; have GB := Lib.hid hg; clear hown hg hnil))
    | (with_reducible refine wpList_store_row rfl 41 _ _ rfl w4.heap.size _ rfl rfl 41 _ (heap_alloc_last _ _) (imgSize3 _ _ _) (imgSz _ _ _ _ _ _) (imgOne _ _ _ _ _) ?_; rw [World.setRow_alloc_new]))
  have ne1 : g3 ≠ w.heap.size := row_ne HRU.out ((Below.heap_alloc _ _ _ (block_lt Q3.out)).trans Q3.out) (by decide)
  have QM : Hid ((w4.alloc (.cells #[.int .i64 W, .int .i64 H, .slice (some ⟨gi, 0, none⟩) m ci] 41)).heap[w.heap.size]? = some (.cells #[.int .i64 W, .int .i64 H, .slice q m mcap] 41)) := Lib.hid (by
    have h1 := grown_block GB.out ((Below.heap_alloc w3 (.cells #[.int .i64 77] 3) _ (block_lt Q3.out)).trans Q3.out) (by intro e; exact ne1 (Option.some.inj e).symm)
    exact (Below.heap_alloc _ _ _ (block_lt h1)).trans h1)
  have QI := Lib.hid (heap_alloc_last w4 (.cells #[.int .i64 W, .int .i64 H, .slice (some ⟨gi, 0, none⟩) m ci] 41))
  have BW : Hid (Below w.heap.size w (w4.alloc (.cells #[.int .i64 W, .int .i64 H, .slice (some ⟨gi, 0, none⟩) m ci] 41))) := Lib.hid (by
    have h1 := (B3.out.alloc B3.out.size (.cells #[.int .i64 77] 3)).grown GB.out (B3.out.alloc B3.out.size (.cells #[.int .i64 77] 3)).size (fun j e => by have h2 : g3 = j := Option.some.inj e; have := B2.out.size; omega)
    exact h1.alloc h1.size _)
  have SIN : Hid (Sl .u16 (w4.alloc (.cells #[.int .i64 W, .int .i64 H, .slice (some ⟨gi, 0, none⟩) m ci] 41)) (some ⟨gi, 0, none⟩) m ci px) := Lib.hid (by
    have h1 := World.ownsRow.kept (OI3.out.alloc (.cells #[.int .i64 77] 3)) GB.out (rows_ne (OI3.out.alloc (.cells #[.int .i64 77] 3)) HRU.out (by decide))
    exact Fresh.sl (World.ownsRow.alloc h1 _) HM.out.wf)
  have HB8 := Lib.hid (World.ownsRow.alloc OB.out (.cells #[.int .i64 W, .int .i64 H, .slice (some ⟨gi, 0, none⟩) m ci] 41))
  have SB1 : Hid (Sl .i64 (w4.alloc (.cells #[.int .i64 W, .int .i64 H, .slice (some ⟨gi, 0, none⟩) m ci] 41)) (some ⟨gb, 0, none⟩) (n + 1) cb (l ++ [77])) := Lib.hid (Fresh.sl (t := 3) (base := w2.heap.size) (by have := HB8.out; simpa using this) (fun y hy => by
    rcases List.mem_append.1 hy with h | h
    · exact HA.out.wf y h
    · obtain rfl : y = 77 := by simpa using h
      decide))
  have SBY := Lib.hid (sl_prefix SB1.out HLn.out)
  have C77 : Hid ((w4.alloc (.cells #[.int .i64 W, .int .i64 H, .slice (some ⟨gi, 0, none⟩) m ci] 41)).cell? ⟨gb, n, none⟩ = some (.int .i64 77)) := Lib.hid (by
    have h1 := SB1.out.rd.cell n (by rw [List.length_append, HLn.out]; simp)
    rw [Nat.zero_add] at h1
    rw [h1]
    congr 2
    rw [List.getD_eq_getElem?_getD, List.getElem?_append_right (by rw [HLn.out]; exact Nat.le_refl _), HLn.out]
    simp)
  have HCB : Hid (n + 1 ≤ cb) := Lib.hid SB1.out.fits
  have SBL : gb < (w4.alloc (.cells #[.int .i64 W, .int .i64 H, .slice (some ⟨gi, 0, none⟩) m ci] 41)).heap.size := (World.ownsRow.lt HB8.out gb rfl).2
  have SZ45 : w4.heap.size < (w4.alloc (.cells #[.int .i64 W, .int .i64 H, .slice (some ⟨gi, 0, none⟩) m ci] 41)).heap.size := by simp
  have SZ05 : w.heap.size < (w4.alloc (.cells #[.int .i64 W, .int .i64 H, .slice (some ⟨gi, 0, none⟩) m ci] 41)).heap.size := block_lt QM.out
  obtain ⟨gin, hgin⟩ : ∃ x, w4.heap.size = x := ⟨_, rfl⟩
  generalize w4.alloc (.cells #[.int .i64 W, .int .i64 H, .slice (some ⟨gi, 0, none⟩) m ci] 41) = w5 at *
  rw [hgin] at QI SZ45 ⊢
  have HAP : Hid (∀ u, Sl .i64 u (some ⟨gb, 0, none⟩) n cb l → Sl .u16 u (some ⟨gi, 0, none⟩) m ci px → Calls Try.prog 15 #[.string op, .slice (some ⟨gb, 0, none⟩) n cb, .agg #[.int .i64 W, .int .i64 H, .slice (some ⟨gi, 0, none⟩) m ci]] u (AppOwn E' W' H' L u)) := Lib.hid (fun u h1 h2 => HAP0.out _ _ _ _ u h1 h2)
  have HW5 : Hid (Below w5.heap.size w5 w5) := Lib.hid (Below.refl _ _)
  have hcb := HCB.out
  have QIM := QI
  clear Q1 Q2 Q3 OI OI3 OA HRU HNW SZU hi hz0 hz1 hz2 OB GB HB8 SB1 hgin ne1 HAP0 B1 B2 B3 SZ3 hgi hg3
  refine wp_region_store (D := fun i => ([28, 29, 30, 31, 32, 33, 34, 27, 35, 36, 9, 0, 10] : List Nat).getD i 0)
    (R := fun i v w' => match i with
        | 0 => v = .string op
        | 1 => v = .slice (some ⟨gb, 0, none⟩) (n + 1) cb
        | 2 => v = .slice a n cap
        | 3 => v = .int .i64 n
        | 4 => v = .slice (some ⟨gb, 0, none⟩) n cb
        | 5 => v = .agg #[.int .i64 W, .int .i64 H, .slice (some ⟨gi, 0, none⟩) m ci]
        | 6 => TupO w5.heap.size E' W' H' L v w'
        | 7 => TupO w5.heap.size E' W' H' L v w'
        | 8 => ImgO w5.heap.size W' H' L v w'
        | 9 => v = .int .i64 E'
        | 10 => NewImg w5.heap.size v w'
        | 11 => True
        | 12 => v = .int .i64 E'
        | _ => True)
    (R' := fun i v w' => match i with
        | 7 => TupO w5.heap.size E' W' H' L v w'
        | 9 => v = .int .i64 E'
        | 10 => ImgOAt w5.heap.size W' H' L v w'
        | 12 => v = .int .i64 E'
        | _ => True)
    (S := fun a' w' => (a'.tmps[0]? = some (.string op) ∧ a'.tmps[1]? = some (.slice a n cap) ∧ a'.tmps[7]? = some (.pointer (some ⟨gin, 0, none⟩)) ∧ a'.tmps[8]? = some (.slice (some ⟨gb, 0, none⟩) (n + 1) cb)) ∧ Below w5.heap.size w5 w')
    11 [9, 12] (by decide) (by kernel_rfl) (by decide +kernel) (by kernel_rfl) (by decide +kernel) (by show 0 < 125; decide) (fun _ _ => trivial) ?_ ?_ ?_ ?_ ?_ ?_ ?_
  · intro i v u u' h hb
    match i, h with
    | 0, h => exact h
    | 1, h => exact h
    | 2, h => exact h
    | 3, h => exact h
    | 4, h => exact h
    | 5, h => exact h
    | 6, h => exact TupO.below h hb
    | 7, h => exact TupO.below h hb
    | 8, h => exact ImgO.below h hb
    | 9, h => exact h
    | 10, h => exact NewImg.below h hb
    | 11, h => exact h
    | 12, h => exact h
    | i + 13, _ => trivial
  · intro i v u u' h hb
    match i, h with
    | 0, h => exact trivial
    | 1, h => exact trivial
    | 2, h => exact trivial
    | 3, h => exact trivial
    | 4, h => exact trivial
    | 5, h => exact trivial
    | 6, h => exact trivial
    | 7, h => exact TupO.below h hb
    | 8, h => exact trivial
    | 9, h => exact h
    | 10, h => exact ImgOAt.below h hb
    | 11, h => exact trivial
    | 12, h => exact h
    | i + 13, _ => trivial
  · intro a' u hb _ hold
    exact ⟨⟨hold 0 (by decide), hold 1 (by decide), hold 7 (by decide), hold 8 (by decide)⟩, hb⟩
  · refine ⟨fun _ => od_move 0 _ rfl (fun a u h => h.1.1) (fun _ => rfl), fun _ => od_move 8 _ rfl (fun a u h => h.1.2.2.2) (fun _ => rfl), fun _ => od_move 1 _ rfl (fun a u h => h.1.2.1) (fun _ => rfl), fun _ => ?_, fun _ => ?_, fun _ => od_load_row 7 _ _ _ _ _ rfl (fun a u h => ⟨h.1.2.2.1, (h.2.block _ (block_lt QI.out)).trans QI.out⟩) Try.underlying41 rfl imgSize (fun _ => rfl), fun _ => ?_, fun _ => od_move_dep 6 34 rfl (by unfold Waits; kernel_rfl) rfl (fun _ _ h => h), fun _ => ?_, fun _ => ?_, fun _ => ?_, fun h => absurd rfl h, fun _ => od_assign_dep 9 36 rfl (by unfold Waits; kernel_rfl) rfl (fun _ _ h => h), trivial⟩
    · intro a' u hS hd
      obtain ⟨_, e0, rfl⟩ := hd 2 (by kernel_rfl)
      have f0 : a'.tmps[30]? = some _ := e0
      clear hd e0
      go_simp
      exact ⟨_, rfl, rfl, Below.refl _ _⟩
    · intro a' u hS hd
      obtain ⟨_, e0, rfl⟩ := hd 1 (by kernel_rfl)
      have f0 : a'.tmps[29]? = some _ := e0
      obtain ⟨_, e1, rfl⟩ := hd 3 (by kernel_rfl)
      have f1 : a'.tmps[31]? = some _ := e1
      clear hd e0 e1
      have hnc : n ≤ cb := Nat.le_of_succ_le HCB.out
      go_simp
      exact ⟨_, rfl, rfl, Below.refl _ _⟩
    · intro a' u hS hd
      obtain ⟨_, e0, rfl⟩ := hd 0 (by kernel_rfl)
      have f0 : a'.tmps[28]? = some _ := e0
      obtain ⟨_, e1, rfl⟩ := hd 4 (by kernel_rfl)
      have f1 : a'.tmps[32]? = some _ := e1
      obtain ⟨_, e2, rfl⟩ := hd 5 (by kernel_rfl)
      have f2 : a'.tmps[33]? = some _ := e2
      clear hd e0 e1 e2
      go_simp
      refine (HAP.out u (SBY.out.below (HW5.out.trans (hS.2.mono HW5.out.size))) (SIN.out.below (HW5.out.trans (hS.2.mono HW5.out.size)))).mono ?_
      rintro e w9 ⟨p4, cap4, rfl, hs4, hb4⟩
      exact ⟨_, rfl, ⟨p4, cap4, rfl, World.ownsRow.mono hs4 hS.2.size⟩, hb4⟩
    · intro a' u hS hd
      obtain ⟨_, e0, p', cap', rfl, hs⟩ := hd 7 (by kernel_rfl)
      have f0 : a'.tmps[27]? = some _ := e0
      clear hd e0
      go_simp
      exact ⟨_, rfl, ⟨p', cap', rfl, hs⟩, Below.refl _ _⟩
    · intro a' u hS hd
      obtain ⟨_, e0, p', cap', rfl, hs⟩ := hd 7 (by kernel_rfl)
      have f0 : a'.tmps[27]? = some _ := e0
      clear hd e0
      go_simp
      exact ⟨_, rfl, rfl, Below.refl _ _⟩
    · intro a' u hS hd
      clear hd
      have hsz := hS.2.size
      go_simp
      exact ⟨_, rfl, ⟨_, rfl, hsz, heap_alloc_last _ _⟩, (Below.refl _ _).alloc (Nat.le_refl _) _⟩
  · refine ⟨fun h => absurd h (by decide), fun h => absurd h (by decide), fun h => absurd h (by decide), fun h => absurd h (by decide), fun h => absurd h (by decide), fun h => absurd h (by decide), fun h => absurd h (by decide), fun h => absurd h (by decide), fun h => absurd h (by decide), fun _ => ?_, fun h => absurd h (by decide), fun h => absurd h (by decide), fun _ => od_assign_dep 9 36 rfl (by unfold Waits; kernel_rfl) rfl (fun _ _ h => h), trivial⟩
    intro a' u hS hd
    obtain ⟨_, e0, p', cap', rfl, hs⟩ := hd 7 (by kernel_rfl)
    have f0 : a'.tmps[27]? = some _ := e0
    clear hd e0
    go_simp
    exact ⟨_, rfl, rfl, Below.refl _ _⟩
  · intro o a' u ho hS hd
    cases ho
    obtain ⟨_, e13, p', cap', rfl, hs'⟩ := hd 8 (by decide) (by unfold Waits; kernel_rfl)
    obtain ⟨_, e15, g, rfl, hg, hh⟩ := hd 10 (by decide) (by unfold Waits; kernel_rfl)
    refine wp_store_row _ _ _ rfl g _ (eval_tmp (t := 9) e15) (eval_tmp (t := 35) e13) 41 _ hh imgSize rfl (imgOne _ _ _ _ _) ⟨rfl, below_setRow (Below.refl _ _) hg _, fun i v hi hv hR => ?_⟩
    match i, hR with
    | 0, h => trivial
    | 1, h => trivial
    | 2, h => trivial
    | 3, h => trivial
    | 4, h => trivial
    | 5, h => trivial
    | 6, h => trivial
    | 7, h => (obtain ⟨p5, cap5, h5, hs5⟩ := h; exact ⟨p5, cap5, h5, row_setRow hs5 hh (by decide) _⟩)
    | 8, h => trivial
    | 9, h => exact h
    | 10, h => exact ⟨g, p', cap', Option.some.inj (hv.symm.trans e15), hg, setRow_heap u g _ _ _ _ hh, row_setRow hs' hh (by decide) _⟩
    | 11, h => trivial
    | 12, h => exact h
    | i + 13, _ => trivial
  · intro a' w6 h
    obtain ⟨_, e9, gw6, pw6, cw6, rfl, hg, hh, hs7⟩ := h.new 10 (by decide) (by decide) (by decide +kernel)
    have e0 : (fun i => a'.tmps.getD i undef) 0 = (.string op) := slot_of (h.old 0 (by decide))
    have e1 : (fun i => a'.tmps.getD i undef) 1 = (.slice a n cap) := slot_of (h.old 1 (by decide))
    have e5 : (fun i => a'.tmps.getD i undef) 5 = (.pointer (some ⟨w.heap.size, 0, none⟩)) := slot_of (h.old 5 (by decide))
    have e6 : (fun i => a'.tmps.getD i undef) 6 = (.bool false) := slot_of (h.old 6 (by decide))
    have e7 : (fun i => a'.tmps.getD i undef) 7 = (.pointer (some ⟨gin, 0, none⟩)) := slot_of (h.old 7 (by decide))
    have e8 : (fun i => a'.tmps.getD i undef) 8 = (.slice (some ⟨gb, 0, none⟩) (n + 1) cb) := slot_of (h.old 8 (by decide))
    replace e9 : (fun i => a'.tmps.getD i undef) 9 = (.pointer (some ⟨gw6, 0, none⟩)) := slot_of e9
    have htm := slots_125 (h.size : a'.tmps.size = 125)
    have hdf : a'.defers = [] := h.defers
    have hbw6 := h.below
    clear h
    obtain ⟨fw6, hf⟩ : ∃ f : Nat → Value, (fun i => a'.tmps.getD i undef) = f := ⟨_, rfl⟩
    simp only [congrFun hf] at htm e0 e1 e5 e6 e7 e8 e9
    obtain ⟨tmps, defers⟩ := a'
    simp only at hdf htm
    subst hdf
    rw [htm]
    clear htm hf
    rw [e0, e1, e5, e6, e7, e8, e9]
    clear e0 e1 e5 e6 e7 e8 e9
    have HW6 := Lib.hid (HW5.out.trans hbw6)
    have XB := Lib.hid hh
    have XR := Lib.hid hs7
    have gx0 := hg
    replace QI := Lib.hid ((hbw6.block _ (block_lt QI.out)).trans QI.out)
    have SZ56 : w5.heap.size ≤ w6.heap.size := hbw6.size
    clear hg hh hs7 hbw6
    go_wp2_with fail
    refine wp_region_store (D := fun i => ([38, 39, 40, 41, 42, 43, 44, 37, 45, 46, 11, 0, 12] : List Nat).getD i 0)
      (R := fun i v w' => match i with
          | 0 => v = .string op
          | 1 => v = .slice (some ⟨gb, 0, none⟩) (n + 1) cb
          | 2 => v = .slice a n cap
          | 3 => v = .int .i64 n
          | 4 => v = .slice (some ⟨gb, 0, none⟩) n cb
          | 5 => v = .agg #[.int .i64 W, .int .i64 H, .slice (some ⟨gi, 0, none⟩) m ci]
          | 6 => TupO w6.heap.size E' W' H' L v w'
          | 7 => TupO w6.heap.size E' W' H' L v w'
          | 8 => ImgO w6.heap.size W' H' L v w'
          | 9 => v = .int .i64 E'
          | 10 => NewImg w6.heap.size v w'
          | 11 => True
          | 12 => v = .int .i64 E'
          | _ => True)
      (R' := fun i v w' => match i with
          | 7 => TupO w6.heap.size E' W' H' L v w'
          | 9 => v = .int .i64 E'
          | 10 => ImgOAt w6.heap.size W' H' L v w'
          | 12 => v = .int .i64 E'
          | _ => True)
      (S := fun a' w' => (a'.tmps[0]? = some (.string op) ∧ a'.tmps[1]? = some (.slice a n cap) ∧ a'.tmps[7]? = some (.pointer (some ⟨gin, 0, none⟩)) ∧ a'.tmps[8]? = some (.slice (some ⟨gb, 0, none⟩) (n + 1) cb)) ∧ Below w6.heap.size w6 w')
      11 [9, 12] (by decide) (by kernel_rfl) (by decide +kernel) (by kernel_rfl) (by decide +kernel) (by show 0 < 125; decide) (fun _ _ => trivial) ?_ ?_ ?_ ?_ ?_ ?_ ?_
    · intro i v u u' h hb
      match i, h with
      | 0, h => exact h
      | 1, h => exact h
      | 2, h => exact h
      | 3, h => exact h
      | 4, h => exact h
      | 5, h => exact h
      | 6, h => exact TupO.below h hb
      | 7, h => exact TupO.below h hb
      | 8, h => exact ImgO.below h hb
      | 9, h => exact h
      | 10, h => exact NewImg.below h hb
      | 11, h => exact h
      | 12, h => exact h
      | i + 13, _ => trivial
    · intro i v u u' h hb
      match i, h with
      | 0, h => exact trivial
      | 1, h => exact trivial
      | 2, h => exact trivial
      | 3, h => exact trivial
      | 4, h => exact trivial
      | 5, h => exact trivial
      | 6, h => exact trivial
      | 7, h => exact TupO.below h hb
      | 8, h => exact trivial
      | 9, h => exact h
      | 10, h => exact ImgOAt.below h hb
      | 11, h => exact trivial
      | 12, h => exact h
      | i + 13, _ => trivial
    · intro a' u hb _ hold
      exact ⟨⟨hold 0 (by decide), hold 1 (by decide), hold 7 (by decide), hold 8 (by decide)⟩, hb⟩
    · refine ⟨fun _ => od_move 0 _ rfl (fun a u h => h.1.1) (fun _ => rfl), fun _ => od_move 8 _ rfl (fun a u h => h.1.2.2.2) (fun _ => rfl), fun _ => od_move 1 _ rfl (fun a u h => h.1.2.1) (fun _ => rfl), fun _ => ?_, fun _ => ?_, fun _ => od_load_row 7 _ _ _ _ _ rfl (fun a u h => ⟨h.1.2.2.1, (h.2.block _ (block_lt QI.out)).trans QI.out⟩) Try.underlying41 rfl imgSize (fun _ => rfl), fun _ => ?_, fun _ => od_move_dep 6 44 rfl (by unfold Waits; kernel_rfl) rfl (fun _ _ h => h), fun _ => ?_, fun _ => ?_, fun _ => ?_, fun h => absurd rfl h, fun _ => od_assign_dep 9 46 rfl (by unfold Waits; kernel_rfl) rfl (fun _ _ h => h), trivial⟩
      · intro a' u hS hd
        obtain ⟨_, e0, rfl⟩ := hd 2 (by kernel_rfl)
        have f0 : a'.tmps[40]? = some _ := e0
        clear hd e0
        go_simp
        exact ⟨_, rfl, rfl, Below.refl _ _⟩
      · intro a' u hS hd
        obtain ⟨_, e0, rfl⟩ := hd 1 (by kernel_rfl)
        have f0 : a'.tmps[39]? = some _ := e0
        obtain ⟨_, e1, rfl⟩ := hd 3 (by kernel_rfl)
        have f1 : a'.tmps[41]? = some _ := e1
        clear hd e0 e1
        have hnc : n ≤ cb := Nat.le_of_succ_le HCB.out
        go_simp
        exact ⟨_, rfl, rfl, Below.refl _ _⟩
      · intro a' u hS hd
        obtain ⟨_, e0, rfl⟩ := hd 0 (by kernel_rfl)
        have f0 : a'.tmps[38]? = some _ := e0
        obtain ⟨_, e1, rfl⟩ := hd 4 (by kernel_rfl)
        have f1 : a'.tmps[42]? = some _ := e1
        obtain ⟨_, e2, rfl⟩ := hd 5 (by kernel_rfl)
        have f2 : a'.tmps[43]? = some _ := e2
        clear hd e0 e1 e2
        go_simp
        refine (HAP.out u (SBY.out.below (HW6.out.trans (hS.2.mono HW6.out.size))) (SIN.out.below (HW6.out.trans (hS.2.mono HW6.out.size)))).mono ?_
        rintro e w9 ⟨p4, cap4, rfl, hs4, hb4⟩
        exact ⟨_, rfl, ⟨p4, cap4, rfl, World.ownsRow.mono hs4 hS.2.size⟩, hb4⟩
      · intro a' u hS hd
        obtain ⟨_, e0, p', cap', rfl, hs⟩ := hd 7 (by kernel_rfl)
        have f0 : a'.tmps[37]? = some _ := e0
        clear hd e0
        go_simp
        exact ⟨_, rfl, ⟨p', cap', rfl, hs⟩, Below.refl _ _⟩
      · intro a' u hS hd
        obtain ⟨_, e0, p', cap', rfl, hs⟩ := hd 7 (by kernel_rfl)
        have f0 : a'.tmps[37]? = some _ := e0
        clear hd e0
        go_simp
        exact ⟨_, rfl, rfl, Below.refl _ _⟩
      · intro a' u hS hd
        clear hd
        have hsz := hS.2.size
        go_simp
        exact ⟨_, rfl, ⟨_, rfl, hsz, heap_alloc_last _ _⟩, (Below.refl _ _).alloc (Nat.le_refl _) _⟩
    · refine ⟨fun h => absurd h (by decide), fun h => absurd h (by decide), fun h => absurd h (by decide), fun h => absurd h (by decide), fun h => absurd h (by decide), fun h => absurd h (by decide), fun h => absurd h (by decide), fun h => absurd h (by decide), fun h => absurd h (by decide), fun _ => ?_, fun h => absurd h (by decide), fun h => absurd h (by decide), fun _ => od_assign_dep 9 46 rfl (by unfold Waits; kernel_rfl) rfl (fun _ _ h => h), trivial⟩
      intro a' u hS hd
      obtain ⟨_, e0, p', cap', rfl, hs⟩ := hd 7 (by kernel_rfl)
      have f0 : a'.tmps[37]? = some _ := e0
      clear hd e0
      go_simp
      exact ⟨_, rfl, rfl, Below.refl _ _⟩
    · intro o a' u ho hS hd
      cases ho
      obtain ⟨_, e13, p', cap', rfl, hs'⟩ := hd 8 (by decide) (by unfold Waits; kernel_rfl)
      obtain ⟨_, e15, g, rfl, hg, hh⟩ := hd 10 (by decide) (by unfold Waits; kernel_rfl)
      refine wp_store_row _ _ _ rfl g _ (eval_tmp (t := 11) e15) (eval_tmp (t := 45) e13) 41 _ hh imgSize rfl (imgOne _ _ _ _ _) ⟨rfl, below_setRow (Below.refl _ _) hg _, fun i v hi hv hR => ?_⟩
      match i, hR with
      | 0, h => trivial
      | 1, h => trivial
      | 2, h => trivial
      | 3, h => trivial
      | 4, h => trivial
      | 5, h => trivial
      | 6, h => trivial
      | 7, h => (obtain ⟨p5, cap5, h5, hs5⟩ := h; exact ⟨p5, cap5, h5, row_setRow hs5 hh (by decide) _⟩)
      | 8, h => trivial
      | 9, h => exact h
      | 10, h => exact ⟨g, p', cap', Option.some.inj (hv.symm.trans e15), hg, setRow_heap u g _ _ _ _ hh, row_setRow hs' hh (by decide) _⟩
      | 11, h => trivial
      | 12, h => exact h
      | i + 13, _ => trivial
    · intro a' w7 h
      obtain ⟨_, e11, gw7, pw7, cw7, rfl, hg, hh, hs7⟩ := h.new 10 (by decide) (by decide) (by decide +kernel)
      have e0 : (fun i => a'.tmps.getD i undef) 0 = (.string op) := slot_of (h.old 0 (by decide))
      have e1 : (fun i => a'.tmps.getD i undef) 1 = (.slice a n cap) := slot_of (h.old 1 (by decide))
      have e5 : (fun i => a'.tmps.getD i undef) 5 = (.pointer (some ⟨w.heap.size, 0, none⟩)) := slot_of (h.old 5 (by decide))
      have e6 : (fun i => a'.tmps.getD i undef) 6 = (.bool false) := slot_of (h.old 6 (by decide))
      have e7 : (fun i => a'.tmps.getD i undef) 7 = (.pointer (some ⟨gin, 0, none⟩)) := slot_of (h.old 7 (by decide))
      have e8 : (fun i => a'.tmps.getD i undef) 8 = (.slice (some ⟨gb, 0, none⟩) (n + 1) cb) := slot_of (h.old 8 (by decide))
      have e9 : (fun i => a'.tmps.getD i undef) 9 = (.pointer (some ⟨gw6, 0, none⟩)) := slot_of (h.old 9 (by decide))
      replace e11 : (fun i => a'.tmps.getD i undef) 11 = (.pointer (some ⟨gw7, 0, none⟩)) := slot_of e11
      have htm := slots_125 (h.size : a'.tmps.size = 125)
      have hdf : a'.defers = [] := h.defers
      have hbw7 := h.below
      clear h
      obtain ⟨fw7, hf⟩ : ∃ f : Nat → Value, (fun i => a'.tmps.getD i undef) = f := ⟨_, rfl⟩
      simp only [congrFun hf] at htm e0 e1 e5 e6 e7 e8 e9 e11
      obtain ⟨tmps, defers⟩ := a'
      simp only at hdf htm
      subst hdf
      rw [htm]
      clear htm hf
      rw [e0, e1, e5, e6, e7, e8, e9, e11]
      clear e0 e1 e5 e6 e7 e8 e9 e11
      have HW7 := Lib.hid (HW6.out.trans (hbw7.mono HW6.out.size))
      have YB := Lib.hid hh
      have YR := Lib.hid hs7
      have gy0 := hg
      have XB7 := Lib.hid ((hbw7.block _ (block_lt XB.out)).trans XB.out)
      have XR7 := Lib.hid (ownsRow_below XR.out hbw7)
      have XO : Hid (∀ j, (Value.slice pw6 L.length cw6).ownBlock = some j → w5.heap.size ≤ j ∧ j < w6.heap.size) := Lib.hid (World.ownsRow.lt XR.out)
      have YO : Hid (∀ j, (Value.slice pw7 L.length cw7).ownBlock = some j → w6.heap.size ≤ j ∧ j < w7.heap.size) := Lib.hid (World.ownsRow.lt YR.out)
      have SZ67 : w6.heap.size ≤ w7.heap.size := hbw7.size
      have gx1 : gw6 < w6.heap.size := block_lt XB.out
      have gy1 : gw7 < w7.heap.size := block_lt YB.out
      clear hg hh hs7 hbw7 XB XR QI
      go_wp2_with fail
      refine (names_any _).mono ?_
      rintro e w8 ⟨v8, rfl, ⟨gl, cl, rfl, hgl, hown⟩, hb8⟩
      have HW8 := Lib.hid (HW7.out.trans (hb8.mono HW7.out.size))
      have XB8 := Lib.hid ((hb8.block _ (block_lt XB7.out)).trans XB7.out)
      have YB8 := Lib.hid ((hb8.block _ (block_lt YB.out)).trans YB.out)
      have XR8 := Lib.hid (ownsRow_below XR7.out hb8)
      have YR8 := Lib.hid (ownsRow_below YR.out hb8)
      have NR8 := Lib.hid hown
      have SZ78 : w7.heap.size ≤ w8.heap.size := hb8.size
      clear hb8 hown XB7 XR7 YB YR
      have c2 := (cell_of_row _ _ 2 _ _ (0, 0) XB8.out).trans rfl
      go_wp2_with fail
      clear c2
      go_loopg [51] L.length (fun gk i wr => ∃ (j : Nat) (xs : List Int), j ≤ L.length ∧ gk = L.length - j ∧ i = .int .i64 j ∧ xs.length = L.length ∧ w8.grownBy wr (Value.slice pw6 L.length cw6).ownBlock ∧ wr.ownsRow w5.heap.size 31 1 (.slice pw6 L.length cw6) L.length (xs.map (Value.int .u16)))
      case atStart => exact ⟨0, L, by omega, rfl, rfl, rfl, ⟨rfl, rfl, rfl, Nat.le_refl _, fun _ _ _ => rfl⟩, XR8.out⟩
      case round =>
        obtain ⟨j, xs, hj, hg, rfl, hxl, hgr, hrow⟩ := hrel
        have Hg := Lib.hid hg
        have HXL := Lib.hid hxl
        have HGR := Lib.hid hgr
        have HROW := Lib.hid hrow
        clear hg hxl hgr hrow
        by_cases hlt : j < L.length
        ·
          --FAST{
          obtain ⟨gX, cX, hpx⟩ := row_form HROW.out (fun e => by simp only [Value.slice.injEq] at e; omega)
          simp only [Value.slice.injEq] at hpx
          obtain ⟨rfl, _, _⟩ := hpx
          have hne : gX ≠ gw6 := row_ne XR8.out XB8.out (by decide)
          have XBr := Lib.hid (grown_block HGR.out XB8.out (by intro e; exact hne (Option.some.inj e).symm))
          have m2 := cell_regrown ((cell_of_row _ _ 2 _ _ (0, 0) XBr.out).trans rfl)
          have hc0 := World.ownsRow.cellAt HROW.out j (by omega)
          obtain ⟨xv, hxv⟩ : ∃ xv, (xs.map (Value.int .u16))[j]? = some (.int .u16 xv) := ⟨xs[j]'(by rw [HXL.out]; exact hlt), by rw [List.getElem?_map, List.getElem?_eq_getElem (by rw [HXL.out]; exact hlt)]; rfl⟩
          have m0 := cell_regrown (hc0.trans hxv)
          clear hc0 hxv hne
          go_wp2_with fail
          refine wp_region_quiet_tail 10 (by kernel_rfl) (by kernel_rfl) ?_
          simp only [List.take_succ_cons, List.take_zero, List.drop_succ_cons, List.drop_zero]
          repeat (go_big_quiet_step (fail))
          refine wpQuiet_nil ?_
          intro _ hw'
          obtain ⟨⟨dq, osq⟩, hw''⟩ := hw'
          subst hw''
          have hb9 := below_regrown wr dq osq
          clear m0 m2
          generalize grow (redrawn wr dq) osq = w9 at *
          have R9 := Lib.hid (ownsRow_below HROW.out hb9)
          have G9 : Hid (w8.grownBy w9 (Value.slice (some ⟨gX, 0, none⟩) L.length cw6).ownBlock) := Lib.hid (grown_join HGR.out (grown_any (grown_of_below hb9)))
          clear hb9
          have c0 : ∃ u, w9.cell? ⟨gX, j, none⟩ = some u := ⟨_, (World.ownsRow.cellAt R9.out j (by omega)).trans (by rw [List.getElem?_map, List.getElem?_eq_getElem (by rw [HXL.out]; exact hlt)]; rfl)⟩
          obtain ⟨u0, c0⟩ := c0
          have f0 := World.ownsRow.frozenAt R9.out j
          go_wp2_with fail
          have ST := World.ownsRow.stored R9.out j (.int .u16 (IntKind.u16.wrap (xv + 1)))
          have ST1 := Lib.hid ST.1
          have ST2 := Lib.hid (grown_join G9.out ST.2)
          clear ST c0 f0
          go_roundg (L.length - (j + 1))
          case measure => have := Hg.out; omega
          case rel => exact ⟨j + 1, xs.set j (IntKind.u16.wrap (xv + 1)), by omega, rfl, congrArg (Value.int .i64) (by have h1 := HLB.out; show wrap64 _ = _; unfold wrap64; omega), by rw [List.length_set]; exact HXL.out, ST2.out, by rw [List.map_set]; exact ST1.out⟩
          --FAST}
        · obtain rfl : j = L.length := by omega
          have HW10 := Lib.hid (HW8.out.grown HGR.out HW8.out.size (fun k e => (XO.out k e).1))
          have NR10 := Lib.hid (World.ownsRow.kept NR8.out HGR.out (by
            rcases rows_ne XR8.out NR8.out (by decide) with h | h
            · exact .inr (by rw [h]; intro e; cases e)
            · exact .inr (fun e => h e.symm)))
          have YR10 := Lib.hid (World.ownsRow.kept YR8.out HGR.out (by
            cases hv : (Value.slice pw7 L.length cw7).ownBlock with
            | none => exact .inl rfl
            | some k =>
              refine .inr fun e => ?_
              have h1 := (YO.out k hv).1
              have h2 := (XO.out k e.symm).2
              omega))
          have YB10 := Lib.hid (grown_block HGR.out YB8.out (by
            rcases row_apart XR8.out YB8.out (by decide) with h | h
            · rw [h]; intro e; cases e
            · exact fun e => h e.symm))
          clear HGR HROW HXL Hg XR8 YR8 NR8 YB8 XB8 HW8
          go_wp2_with fail
          obtain ⟨w11, hw11⟩ : ∃ x, x = wr := ⟨_, rfl⟩
          subst hw11
          go_loopg [67] 20 (fun gk i wz => ∃ (j : Nat) (vs : List Value), j ≤ 20 ∧ gk = 20 - j ∧ i = .int .i64 j ∧ vs.length = 20 ∧ w11.grownBy wz (some gl) ∧ wz.ownsRow w7.heap.size 9 1 (.slice (some ⟨gl, 0, none⟩) 20 cl) 20 vs)
          case atStart => exact ⟨0, _, by omega, rfl, rfl, rfl, ⟨rfl, rfl, rfl, Nat.le_refl _, fun _ _ _ => rfl⟩, NR10.out⟩
          case round =>
            obtain ⟨j, vs, hj, hg, rfl, hxl, hgr, hrow⟩ := hrel
            have Hg := Lib.hid hg
            have HVL := Lib.hid hxl
            have HGR := Lib.hid hgr
            have HROW := Lib.hid hrow
            clear hg hxl hgr hrow
            by_cases hlt : j < 20
            ·
              --FAST{
              have c0 : ∃ u, wr.cell? ⟨gl, j, none⟩ = some u := ⟨_, (World.ownsRow.cellAt HROW.out j (by omega)).trans (List.getElem?_eq_getElem (by rw [HVL.out]; exact hlt))⟩
              obtain ⟨u0, c0⟩ := c0
              have f0 := World.ownsRow.frozenAt HROW.out j
              go_wp2_with fail
              have ST := World.ownsRow.stored HROW.out j (.string ⟨#[103, 111, 110, 101]⟩)
              have ST1 := Lib.hid ST.1
              have ST2 := Lib.hid (grown_join HGR.out ST.2)
              clear ST c0 f0
              go_roundg (20 - (j + 1))
              case measure => have := Hg.out; omega
              case rel => exact ⟨j + 1, vs.set j (.string ⟨#[103, 111, 110, 101]⟩), by omega, rfl, congrArg (Value.int .i64) (by omega), by rw [List.length_set]; exact HVL.out, ST2.out, ST1.out⟩
              --FAST}
            · obtain rfl : j = 20 := by omega
              have HW12 := Lib.hid (HW10.out.grown HGR.out HW10.out.size (fun k e => by have h1 := (World.ownsRow.lt NR10.out k e).1; omega))
              have YR12 := Lib.hid (World.ownsRow.kept YR10.out HGR.out (by
                rcases rows_ne YR10.out NR10.out (by decide) with h | h
                · exact .inl h
                · exact .inr (fun e => h e)))
              have YB12 := Lib.hid (grown_block HGR.out YB10.out (by
                rcases row_apart NR10.out YB10.out (by decide) with h | h
                · cases h
                · exact fun e => h e.symm))
              clear HGR HROW HVL Hg NR10 YR10 YB10 HW10
              have Q12 := Lib.hid ((HW12.out.block _ SZ05).trans QM.out)
              have BW12 := Lib.hid (BW.out.trans (HW12.out.mono (Nat.le_of_lt SZ05)))
              go_wp2_with (with_reducible refine wpList_load_row rfl 41 _ rfl w.heap.size rfl 41 _ (0, 0) _ Q12.out Try.underlying41 rfl (imgSize3 _ _ _) ?_)
              refine (HRF.out _ (HA.out.below BW12.out) (HM.out.below BW12.out)).mono ?_
              rintro e w13 ⟨pz, cz, rfl, SZ, hb13⟩
              have HW13 := Lib.hid (HW12.out.trans (hb13.mono HW12.out.size))
              have YB13 := Lib.hid ((hb13.block _ (block_lt YB12.out)).trans YB12.out)
              have YR13 := Lib.hid (ownsRow_below YR12.out hb13)
              have SZ13 := Lib.hid SZ
              clear hb13 SZ HW12 YB12 YR12 Q12 BW12
              have AB14 : Below w13.heap.size w13 (w13.alloc (.cells #[.int .i64 W', .int .i64 H', .slice pz L.length cz] 41)) := (Below.refl _ _).alloc (Nat.le_refl _) _
              have FZ := Lib.hid (heap_alloc_last w13 (.cells #[.int .i64 W', .int .i64 H', .slice pz L.length cz] 41))
              have HW14 := Lib.hid (HW13.out.trans (AB14.mono HW13.out.size))
              have FY := Lib.hid ((AB14.block _ (block_lt YB13.out)).trans YB13.out)
              have YR14 := Lib.hid (ownsRow_below YR13.out AB14)
              have SZ14 := Lib.hid (SZ13.out.below AB14)
              clear AB14 HW13 YB13 YR13 SZ13
              have FM14 := Lib.hid ((HW14.out.block _ SZ05).trans QM.out)
              have FI14 := Lib.hid ((HW14.out.block _ (block_lt QIM.out)).trans QIM.out)
              have hgb : gb < w5.heap.size := SBL
              have c77 := (HW14.out.cell (p := ⟨gb, n, none⟩) hgb).trans C77.out
              have m0 := (cell_of_row _ _ 0 _ _ (0, 0) FM14.out).trans rfl
              have m1 := (cell_of_row _ _ 1 _ _ (0, 0) FM14.out).trans rfl
              have m2 := (cell_of_row _ _ 2 _ _ (0, 0) FM14.out).trans rfl
              have i0 := (cell_of_row _ _ 0 _ _ (0, 0) FI14.out).trans rfl
              have i1 := (cell_of_row _ _ 1 _ _ (0, 0) FI14.out).trans rfl
              have i2 := (cell_of_row _ _ 2 _ _ (0, 0) FI14.out).trans rfl
              go_wp2_with (with_reducible refine wpList_store_row rfl 41 _ _ rfl w13.heap.size _ rfl rfl 41 _ (heap_alloc_last _ _) (imgSize3 _ _ _) (imgSz _ _ _ _ _ _) (imgOne _ _ _ _ _) ?_; rw [World.setRow_alloc_new])
              clear m0 m1 m2 i0 i1 i2 c77
              generalize w13.alloc (.cells #[.int .i64 W', .int .i64 H', .slice pz L.length cz] 41) = w14 at *
              have BW14 := Lib.hid (BW.out.trans (HW14.out.mono (Nat.le_of_lt SZ05)))
              refine (same_any W H W H (some ⟨gi, 0, none⟩) q m m ci mcap px px _ (SIN.out.below HW14.out) (HM.out.below BW14.out)).mono ?_
              rintro e w15 ⟨rfl, hb15⟩
              rw [sameB_true ⟨rfl, rfl, rfl⟩]
              have HW15 := Lib.hid (HW14.out.trans (hb15.mono HW14.out.size))
              have FY15 := Lib.hid ((hb15.block _ (block_lt FY.out)).trans FY.out)
              have FZ15 := Lib.hid ((hb15.block _ (block_lt FZ.out)).trans FZ.out)
              have SY15 : Hid (Sl .u16 w15 pw7 L.length cw7 L) := Lib.hid (sl_of_row (ownsRow_below YR14.out hb15) HLU.out).2
              have SZ15 := Lib.hid (SZ14.out.below hb15)
              clear hb15 HW14 FY FZ YR14 SZ14 BW14 FM14 FI14
              have m0 := (cell_of_row _ _ 0 _ _ (0, 0) FY15.out).trans rfl
              have m1 := (cell_of_row _ _ 1 _ _ (0, 0) FY15.out).trans rfl
              have m2 := (cell_of_row _ _ 2 _ _ (0, 0) FY15.out).trans rfl
              have i0 := (cell_of_row _ _ 0 _ _ (0, 0) FZ15.out).trans rfl
              have i1 := (cell_of_row _ _ 1 _ _ (0, 0) FZ15.out).trans rfl
              have i2 := (cell_of_row _ _ 2 _ _ (0, 0) FZ15.out).trans rfl
              go_wp2_with fail
              clear m0 m1 m2 i0 i1 i2
              refine (same_any W' H' W' H' pw7 pz L.length L.length cw7 cz L L _ SY15.out SZ15.out).mono ?_
              rintro e w16 ⟨rfl, hb16⟩
              rw [sameB_true ⟨rfl, rfl, rfl⟩]
              have HW16 := Lib.hid (HW15.out.trans (hb16.mono HW15.out.size))
              clear hb16 HW15 FY15 FZ15 SY15 SZ15
              go_wp2_with fail
              refine (names_any _).mono ?_
              rintro e w17 ⟨v17, rfl, ⟨g17, c17, rfl, hg17, hown17⟩, hb17⟩
              have HW17 := Lib.hid (HW16.out.trans (hb17.mono HW16.out.size))
              clear hb17 HW16 hown17 hg17
              go_wp2_with fail
              refine (names_any _).mono ?_
              rintro e w18 ⟨v18, rfl, ⟨g18, c18, rfl, hg18, hown18⟩, hb18⟩
              have HW18 := Lib.hid (HW17.out.trans (hb18.mono HW17.out.size))
              have n0 : w18.cell? ⟨g18, 0, none⟩ = some (.string ⟨#[105, 110, 118, 101, 114, 116]⟩) := (World.ownsRow.cellAt hown18 0 (by omega)).trans rfl
              clear hb18 HW17 hown18 hg18
              go_wp2_with fail
              clear n0
              have S18 := Lib.hid (HA.out.below (BW.out.trans (HW18.out.mono (Nat.le_of_lt SZ05))))
              have T18 := Lib.hid (SBY.out.below HW18.out)
              have BW18 := Lib.hid (BW.out.trans (HW18.out.mono (Nat.le_of_lt SZ05)))
              clear HW18
              go_loopg [112] n (fun gk i wr => ∃ k : Nat, k ≤ n ∧ gk = n - k ∧ i = .int .i64 k ∧ Below w18.heap.size w18 wr)
              case atStart => exact ⟨0, by omega, rfl, rfl, Below.refl _ _⟩
              case round =>
                obtain ⟨k, hk, hg, rfl, hb⟩ := hrel
                have Hg := Lib.hid hg
                have Hb := Lib.hid hb
                clear hg hb
                by_cases hlt : k < n
                · obtain ⟨b, off, rfl, hcell⟩ := S18.out.cells (by omega)
                  have hx := T18.out.rd.cell k (by have := S18.out.len; omega)
                  rw [Nat.zero_add] at hx
                  have x1 := cell_regrown (keep_cell Hb.out (hcell k hlt))
                  have x2 := cell_regrown (keep_cell Hb.out hx)
                  clear hcell hx
                  generalize l.getD k 0 = s at *
                  have hss : (s != s) = false := by simp
                  go_wp2_with fail
                  refine wp_region_quiet_below (by kernel_rfl) (by kernel_rfl) ?_
                  repeat (go_big_quiet_step (fail))
                  refine wpQuiet_nil ?_
                  intro _ hw'
                  obtain ⟨⟨dq, osq⟩, hw''⟩ := hw'
                  subst hw''
                  have HB5 := Lib.hid (Hb.out.trans ((below_regrown wr dq osq).mono Hb.out.size))
                  clear x1 x2
                  generalize grow (redrawn wr dq) osq = w19 at *
                  go_wp2_with fail
                  go_roundg (n - (k + 1))
                  case measure => have := Hg.out; omega
                  case rel => exact ⟨k + 1, by omega, rfl, by go_num, HB5.out⟩
                · obtain rfl : k = n := by omega
                  have HB5 := Lib.hid (BW18.out.trans (Hb.out.mono BW18.out.size))
                  clear hlt
                  go_wp2_with fail
                  go_ret
                  exact ⟨rfl, HB5.out⟩
end Go.Proofs.Ytdemndjenlhahaa
