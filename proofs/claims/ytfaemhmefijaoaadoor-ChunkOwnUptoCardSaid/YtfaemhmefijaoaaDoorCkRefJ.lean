/- The reference's Join. -/
import Derived.Test.YtfaemhmefijaoaaDoorCkChunks
import Derived.Test.YtfaemhmefijaoaaDoorCkRefS
import Derived.Test.YtfaemhmefijaoaaDoorSumsRefC
import Derived.Laws.IdiomStrings
import Derived.Lib.FrozenHead
import Derived.ArgAppend
import Derived.Maps.AppendAt
namespace Go.Proofs.YtfaemhmefijaoaaDoor
open Go.RowKit Go.Sort

/-- cells stored ahead of a frozen tail -/
theorem run_storeCells_atT (P : Program) (g o : Nat) (t : TypeId) (fz : Nat × Nat) : ∀ (vs : List Value) (i : Nat) (cur : Array Value) (w : World), w.heap[g]? = some (.cells cur t fz) → o + i + vs.length ≤ fz.1 → o + i + vs.length ≤ cur.size → (∀ v ∈ vs, v.oneCell' = true) →
    (storeCells ⟨g, o, none⟩ vs i).run P w = .ok () (w.setRow g (cur.toList.take (o + i) ++ vs ++ cur.toList.drop (o + i + vs.length)).toArray)
  | [], i, cur, w, hg, _, _, _ => by
    simp only [storeCells, List.append_nil, List.length_nil, Nat.add_zero, List.take_append_drop, Array.toArray_toList]
    rw [setRow_self w g cur t fz hg]
    rfl
  | v :: rest, i, cur, w, hg, hfz, hl, h1 => by
    have hi : o + i < cur.size := by simp at hl; omega
    have hadd : (⟨g, o, none⟩ : Addr).add i = ⟨g, o + i, none⟩ := by unfold Addr.add; split <;> simp_all
    have hcell : w.cell? ⟨g, o + i, none⟩ = some cur[o + i] := by simp [World.cell?, hg, hi]
    have hfro : w.frozen? ⟨g, o + i, none⟩ = false := by
      obtain ⟨lo, hi'⟩ := fz
      simp only [World.frozen?, hg, Bool.and_eq_false_iff, decide_eq_false_iff_not]
      left
      simp at hfz
      omega
    have hst : (store ((⟨g, o, none⟩ : Addr).add i) v).run P w = .ok () (w.setRow g (cur.setIfInBounds (o + i) v)) := by
      rw [hadd, run_store P w _ v _ (h1 v (by simp)), hcell]
      simp [hfro, setCell_eq_setRow w g (o + i) cur t fz v hg]
    have ih := run_storeCells_atT P g o t fz rest (i + 1) (cur.setIfInBounds (o + i) v) (w.setRow g (cur.setIfInBounds (o + i) v)) (setRow_heap w g cur _ t _ hg) (by simp at hfz ⊢; omega) (by simp at hl ⊢; omega) (fun x hx => h1 x (by simp [hx]))
    simp only [storeCells, Sem.run_bind, hst, Result.andThen_ok, ih, setRow_setRow]
    congr 3
    have e := list_seg_step cur.toList (o + i) v rest (by simp at hl ⊢; omega)
    simpa [Array.toList_setIfInBounds, Nat.add_assoc] using e

/-- a row that []byte(s) has made: its mark lies behind its last cell -/
structure MarkRow (base g c : Nat) (cur : Array Value) (xs : List Int) (w : World) : Prop where
  lies : base ≤ g
  heap : w.heap[g]? = some (.cells cur 5 (c, c + 1))
  size : cur.size = c
  fits : xs.length ≤ c
  most : c ≤ maxLen
  head : cur.toList.take xs.length = xs.map (Value.int .u8)
theorem MarkRow.below {base g c : Nat} {cur : Array Value} {xs : List Int} {w w' : World} (h : MarkRow base g c cur xs w) (hb : Below w.heap.size w w') : MarkRow base g c cur xs w' :=
  ⟨h.lies, (hb.block _ (block_lt h.heap)).trans h.heap, h.size, h.fits, h.most, h.head⟩
theorem markRow_new {base : Nat} (u : World) (s : ByteArray) (h4 : s.size = 4) (hb : base ≤ u.heap.size) :
    MarkRow base u.heap.size (grownCap u 4 0 5) (bytesRow s (grownCap u 4 0 5)) (ck.bytesOf s) (u.drew.alloc (.cells (bytesRow s (grownCap u 4 0 5)) 5 ((bytesRow s (grownCap u 4 0 5)).size, (bytesRow s (grownCap u 4 0 5)).size + 1))) := by
  have hge := grownCap_ge u 4 0 5
  have hsz : (bytesRow s (grownCap u 4 0 5)).size = grownCap u 4 0 5 := by
    have : s.data.size = 4 := h4
    simp [bytesRow, this, h4]
    omega
  refine ⟨hb, ?_, hsz, by rw [ck.bytesOf_length, h4]; exact hge, grownCap_le_maxLen u 4 0 _ (by decide), ?_⟩
  · rw [hsz]
    exact heap_alloc_new u.drew _
  · rw [ck.bytesOf_length]
    simp [bytesRow, ck.bytesOf]
/-- append to such a row -/
theorem run_append_mark (w : World) (ty : TypeId) (base g n c : Nat) (cur : Array Value) (xs : List Int) (h : MarkRow base g c cur xs w) (hn : xs.length = n) (hn0 : 0 < n) (hbw : base ≤ w.heap.size) (hxb : sm.Bytes xs) (p : Option Addr) (m c' : Nat) (d : List Int) (hs : Sl .u8 w p m c' d) (hb : n + m ≤ 140737488355328) :
    ∃ v' w', (Builtin.append_ #[22, 22] ty #[.slice (some ⟨g, 0, none⟩) n c, .slice p m c']).run Tryd.prog w = .ok v' w' ∧ ((∃ ga c2, v' = .slice (some ⟨ga, 0, none⟩) (n + m) c2 ∧ base ≤ ga ∧ Sl .u8 w' (some ⟨ga, 0, none⟩) (n + m) c2 (xs ++ d)) ∧ w.grownBy w' (some g)) := by
  subst hn
  obtain ⟨i0, hi, hz0, hz1, hz2⟩ := info_parts infoByte
  have hwf : ∀ x ∈ xs ++ d, (Lit.int .u8 x).wf = true := fun x hx => by
    rcases List.mem_append.1 hx with h1 | h1
    · exact wf_of_bytes hxb x h1
    · exact hs.wf x h1
  have hlen : (xs ++ d).length = xs.length + m := by rw [List.length_append, hs.len]
  have holds : ∀ j u, (xs.map (Value.int .u8))[j]? = some u → w.cell? ((⟨g, 0, none⟩ : Addr).add j) = some u := by
    intro j u hu
    have e : (⟨g, 0, none⟩ : Addr).add j = ⟨g, j, none⟩ := by unfold Addr.add; split <;> simp_all
    have hj : j < xs.length := by
      have := (List.getElem?_eq_some_iff.1 hu).1
      simpa using this
    rw [e, cell_of_row _ _ _ _ _ _ h.heap]
    rw [← h.head, List.getElem?_take, if_pos hj] at hu
    simpa using hu
  cases p with
  | none =>
    obtain rfl : c' = 0 := hs.bare rfl
    obtain rfl : m = 0 := by have := hs.fits; omega
    obtain rfl : d = [] := List.eq_nil_of_length_eq_zero hs.len
    refine ⟨.slice (some ⟨g, 0, none⟩) xs.length c, w, ?_, ⟨⟨_, c, rfl, h.lies, ?_⟩, ⟨rfl, rfl, rfl, Nat.le_refl _, fun _ _ _ => rfl⟩⟩⟩
    · have hu := Tryd.underlying22
      simp [Builtin.append_, run_underlying hu, sizeOf, typeInfo, hi, Builtin.lenOf, Builtin.firstCells, h.fits, storeCells]
    · refine ⟨by simp, h.fits, h.most, (fun e => nomatch e), (fun x hx => hwf x hx), .inr ⟨g, 0, rfl, fun i hi' => ?_⟩⟩
      rw [List.append_nil] at hi' ⊢
      have := holds i (.int .u8 (xs.getD i 0)) (by rw [List.getElem?_map, List.getElem?_eq_getElem hi']; simp [List.getD_eq_getElem?_getD, hi'])
      have e : (⟨g, 0, none⟩ : Addr).add i = ⟨g, 0 + i, none⟩ := by unfold Addr.add; split <;> simp_all
      rw [← e]
      exact this
  | some ad =>
    by_cases hroom : xs.length + m ≤ c
    · have hf := run_firstCells_some (P := Tryd.prog) w i0.size m ad m c' (d.map (Value.int .u8)) (by rw [List.length_map, hs.len, hz1, Nat.mul_one]) hs.at_news
      have hst := run_storeCells_atT Tryd.prog g xs.length 5 (c, c + 1) (d.map (Value.int .u8)) 0 cur w h.heap (by rw [List.length_map, hs.len]; exact hroom) (by rw [List.length_map, hs.len, h.size]; exact hroom) (ints_oneCell _ _)
      simp only [Nat.add_zero, List.length_map, hs.len, h.head] at hst
      have hu := Tryd.underlying22
      refine ⟨.slice (some ⟨g, 0, none⟩) (xs.length + m) c, w.setRow g (xs.map (Value.int .u8) ++ d.map (Value.int .u8) ++ List.drop (xs.length + m) cur.toList).toArray, ?_, ⟨⟨_, c, rfl, h.lies, ?_⟩, grownBy_setRow w g _⟩⟩
      · rw [hz1] at hf
        simp [Builtin.append_, run_underlying hu, sizeOf, typeInfo, hi, hz1, Builtin.lenOf, hroom, hf, Addr.add_lit, hst]
      · refine ⟨hlen, hroom, h.most, (fun e => nomatch e), hwf, .inr ⟨g, 0, rfl, fun i hi' => ?_⟩⟩
        rw [Nat.zero_add, cell_of_row _ _ _ _ _ _ (setRow_heap w g cur _ _ _ h.heap)]
        simp only [List.getElem?_toArray]
        rw [← List.map_append, List.getElem?_append_left (by rw [List.length_map]; exact hi'), List.getElem?_map, List.getD_eq_getElem?_getD, List.getElem?_eq_getElem hi']
        rfl
    · obtain ⟨v', w', hrun, r1, r2⟩ := run_append_arg_grows (P := Tryd.prog) w 22 ty 5 i0 (.int .u8 0) 1 1 Tryd.underlying22 hi hz0 hz1 hz2 rfl (by decide) ⟨g, 0, none⟩ xs.length c (xs.map (Value.int .u8)) (by rw [List.length_map, Nat.mul_one]) holds ad m c' (d.map (Value.int .u8)) (by rw [List.length_map, hs.len, Nat.mul_one]) hs.at_news (by omega) (by unfold maxLen; omega) (by omega)
      rw [← List.map_append] at r1
      obtain ⟨ga, c2, rfl, _⟩ := own_form r1 (by omega)
      exact ⟨_, w', hrun, ⟨⟨ga, c2, rfl, Nat.le_trans hbw (World.ownsRow.lt r1 ga rfl).1, Fresh.sl r1 hwf⟩, grown_any r2⟩⟩
theorem Sl.grown {k : IntKind} {w w' : World} {g n c : Nat} {l : List Int} {row : Option Nat} (h : Sl k w (some ⟨g, 0, none⟩) n c l) (hg : w.grownBy w' row) (hne : some g ≠ row) : Sl k w' (some ⟨g, 0, none⟩) n c l := by
  refine ⟨h.len, h.fits, h.most, h.bare, h.wf, ?_⟩
  rcases h.rd with h0 | ⟨b, off, e, hc⟩
  · exact .inl h0
  · simp only [Option.some.injEq, Addr.mk.injEq, and_true] at e
    obtain ⟨rfl, rfl⟩ := e
    exact .inr ⟨g, 0, rfl, fun i hi => (World.cell?_of_block (hg.block g (block_lt_of_cell (hc i hi)) hne)).trans (hc i hi)⟩
/-- append to a row of one's own, told where the row comes to lie -/
theorem run_append_sl_at (w : World) (ty : TypeId) (base : Nat) (v : Value) (n : Nat) (xs : List Int) (hown : w.ownsRow base 5 1 v n (xs.map (Value.int .u8))) (ad : Addr) (m c : Nat) (d : List Int) (hs : Sl .u8 w (some ad) m c d)
    (hb : n + m ≤ 140737488355328) (hbase : base ≤ w.heap.size) :
    ∃ v' w', (Builtin.append_ #[22, 22] ty #[v, .slice (some ad) m c]).run Tryd.prog w = .ok v' w' ∧ (AppOut base (n + m) (xs ++ d) w v.ownBlock v' w' ∧ (v'.ownBlock = v.ownBlock ∨ v'.ownBlock = some w.heap.size)) := by
  obtain ⟨i0, hi, hz0, hz1, hz2⟩ := info_parts infoByte
  obtain ⟨v', w', h1, h2, h3, _, h5⟩ := run_append_own_at (P := Tryd.prog) w base 22 ty 5 i0 (.int .u8 0) 1 1 Tryd.underlying22 hi hz0 hz1 hz2 rfl (by decide) v n _ hown ad m c (d.map (Value.int .u8)) (by rw [List.length_map, hs.len, Nat.mul_one]) hs.at_news (ints_oneCell _ _) (by unfold maxLen; omega) (by omega) hbase
  exact ⟨v', w', h1, ⟨by rw [List.map_append]; exact h2, h3⟩, h5⟩
/-- four bytes appended -/
theorem be4_sl (w : World) (c : Nat) (hc : c < 4294967296) : Sl .u8 (w.alloc (.cells ((ck.be4 c).map (Value.int .u8)).toArray 5)) (some ⟨w.heap.size, 0, none⟩) 4 4 (ck.be4 c) :=
  sl_bytes w (ck.be4 c) 5 (0, 0) w.heap.size rfl (by simp [ck.be4, maxLen]) (wf_of_bytes (ck.be4_bytes hc))
set_option maxRecDepth 100000 in
set_option maxHeartbeats 3200000 in
theorem refjoin_any (p : Option Addr) (n cap : Nat) (ls : List ck.Arg) (w : World) (h : ck.Rd w p n cap ls) (hb : (ck.joined (ls.map (·.ck))).length ≤ 1073741824) :
    Calls Tryd.prog 17 #[.slice p n cap] w (JoinPost (ck.join (ls.map (·.ck))) w) := by
  have HR := Lib.hid h
  have hm : n ≤ maxLen := Nat.le_trans h.fits h.most
  have hfit := h.fits
  unfold maxLen at hm
  have HL : Hid ((ls.map (·.ck)).length = n) := Lib.hid (by rw [List.length_map]; exact h.len)
  have HBD := Lib.hid hb
  clear h hb
  obtain ⟨cs, hcs⟩ : ∃ cs, ls.map (·.ck) = cs := ⟨_, rfl⟩
  rw [hcs] at HL HBD ⊢
  have HCS := Lib.hid hcs
  have HCB : Hid (∀ c ∈ cs, sm.Bytes c.1 ∧ sm.Bytes c.2) := Lib.hid (by
    rw [← hcs]
    intro c hc
    obtain ⟨x, hx, rfl⟩ := List.mem_map.1 hc
    exact ⟨ck.bytesOf_bytes _, (HR.out.data x hx).bytes⟩)
  clear hcs
  go_enter Tryd.func17, Tryd.ntmps17
  go_wp2_with fail
  refine (sign_any _).mono ?_
  rintro e w1 ⟨rfl, hw1⟩
  have ho : w1.ownsRow w.heap.size 5 1 (.slice (some ⟨w.heap.size, 0, none⟩) 8 8) 8 (ck.sign.map (Value.int .u8)) := by
    rw [← hw1]
    exact World.ownsRow_lit w #[.int .u8 137, .int .u8 80, .int .u8 78, .int .u8 71, .int .u8 13, .int .u8 10, .int .u8 26, .int .u8 10] 8 (Nat.le_refl _) (by decide) rfl
  have hb1 : Below w.heap.size w w1 := by rw [← hw1]; exact (Below.refl _ _).alloc (Nat.le_refl _) _
  have HO1 := Lib.hid ho
  have HB1 := Lib.hid hb1
  clear ho hb1 hw1
  go_wp2_with fail
  go_loopg [4, 5] n (fun gk o i wr => ∃ (k : Nat), k ≤ n ∧ gk = n - k ∧ i = .int .i64 k ∧ wr.ownsRow w.heap.size 5 1 o (ck.joinedTo cs k).length ((ck.joinedTo cs k).map (Value.int .u8)) ∧ Below w.heap.size w wr ∧ (∀ j, j < k → ck.okAt cs j = true))
  case atStart => exact ⟨0, Nat.zero_le _, rfl, rfl, HO1.out, HB1.out, fun j hj => absurd hj (by omega)⟩
  case round =>
    obtain ⟨vq, hvq⟩ : ∃ x, x = u4 := ⟨_, rfl⟩
    subst hvq
    obtain ⟨k, hk, hg, rfl, hown, hbe, hok⟩ := hrel
    have Hg := Lib.hid hg
    have HO := Lib.hid hown
    have HB := Lib.hid hbe
    have HOk := Lib.hid hok
    clear hg hown hbe hok
    by_cases hlt : k < n
    · obtain ⟨b, off, x, rfl, hx, cx, cy, hd⟩ := (HR.out.below HB.out).at hlt
      have HX := Lib.hid hx
      have HD := Lib.hid hd
      have hss := HR.out.names x (List.mem_of_getElem? hx)
      clear hx hd
      go_wp2_with fail
      refine (refletters_any _ _ hss).mono ?_
      rintro e w2 ⟨rfl, rfl⟩
      have HAT := Lib.hid (ck.okAt_arg HCS.out HX.out)
      by_cases h1 : ck.letters4 x.s = true
      · have HLET : Hid (x.s.size = 4) := Lib.hid (by
          unfold ck.letters4 at h1
          rw [Bool.and_eq_true] at h1
          simpa using h1.1)
        rw [h1] at HAT ⊢
        clear h1
        obtain ⟨e1, he1⟩ : ∃ e1, decide (ck.bytesOf x.s = ck.iend) = e1 := ⟨_, rfl⟩
        obtain ⟨e2, he2⟩ : ∃ e2, decide (k + 1 = cs.length) = e2 := ⟨_, rfl⟩
        rw [he1, he2] at HAT
        have q1 : (x.s.toList == [73, 69, 78, 68]) = e1 := by rw [ck.str_iend, he1]
        have q2 : ((k : Int) == (n : Int) - 1) = e2 := by
          rw [← he2, HL.out, Bool.eq_iff_iff]
          simp
          omega
        clear he1 he2
        by_cases he : e1 = e2
        · subst he
          have q3 : (e1 != e1) = false := by simp
          have HOKk : Hid (ck.okAt cs k = true) := Lib.hid (by rw [HAT.out]; simp)
          have hck : cs[k]? = some x.ck := by rw [← HCS.out, List.getElem?_map, HX.out]; rfl
          have hxl : (ck.joinedTo cs (k + 1)).length ≤ 1073741824 := Nat.le_trans ck.joinedTo_le HBD.out
          have HSU := Lib.hid (ck.joinedTo_succ hck)
          have HXL := Lib.hid (show x.d.length = x.n from HD.out.len)
          have hel : (ck.joinedTo cs k).length + (8 + 4 + x.n) ≤ 1073741824 := by
            rw [HSU.out, List.length_append, ck.encode_length] at hxl
            simp only [ck.Arg.ck, ck.bytesOf_length, HLET.out, HXL.out] at hxl
            exact hxl
          obtain ⟨J, hJ⟩ : ∃ J, ck.joinedTo cs k = J := ⟨_, rfl⟩
          rw [hJ] at HO HSU hel
          have HJ := Lib.hid hJ
          clear hJ hxl hck HAT
          go_wp2_with fail
          refine wp_region_laid_tails 11 (by decide) (by kernel_rfl) (D := fun i => ([35, 36, 37, 38, 39, 40, 41, 42, 43, 44, 45] : List Nat).getD i 0)
            (R := fun i v w' => match i with
              | 0 => v = .slice (some ⟨b, off, none⟩) n cap
              | 1 => v = .int .i64 k
              | 2 => v = .pointer (some ⟨b, off + k * 2, none⟩)
              | 3 => v = .pointer (some ⟨b, off + k * 2, none⟩)
              | 4 => v = .string x.s
              | 5 => ∃ g c cur, v = .slice (some ⟨g, 0, none⟩) 4 c ∧ MarkRow wr.heap.size g c cur (ck.bytesOf x.s) w'
              | 6 => v = .slice (some ⟨b, off, none⟩) n cap
              | 7 => v = .int .i64 k
              | 8 => v = .pointer (some ⟨b, off + k * 2, none⟩)
              | 9 => v = .pointer (some ⟨b, off + k * 2 + 1, none⟩)
              | 10 => v = .slice x.p x.n x.cap
              | _ => True)
            (S := fun a' w' => (a'.tmps[0]? = some (.slice (some ⟨b, off, none⟩) n cap) ∧ a'.tmps[5]? = some (.int .i64 k)) ∧ Below wr.heap.size wr w')
            (by kernel_rfl) (by decide +kernel) (by decide +kernel) (by decide +kernel) (by decide +kernel) (by kernel_rfl) ?_ ?_ ?_ ?_
          · intro i v u u' h hb
            match i, h with
            | 0, h => exact h
            | 1, h => exact h
            | 2, h => exact h
            | 3, h => exact h
            | 4, h => exact h
            | 5, h => (obtain ⟨g, c, cur, h1, h2⟩ := h; exact ⟨g, c, cur, h1, h2.below hb⟩)
            | 6, h => exact h
            | 7, h => exact h
            | 8, h => exact h
            | 9, h => exact h
            | 10, h => exact h
            | i + 11, _ => trivial
          · intro a' u hb _ hold
            exact ⟨⟨hold 0 (by decide), hold 5 (by decide)⟩, hb⟩
          · refine ⟨?_, ?_, ?_, ?_, ?_, ?_, ?_, ?_, ?_, ?_, ?_, trivial⟩
            · intro a' u hS hd
              clear hd
              have g0 := hS.1.1
              go_simp
              exact ⟨_, rfl, rfl, Below.refl _ _⟩
            · intro a' u hS hd
              clear hd
              have g0 := hS.1.2
              go_simp
              exact ⟨_, rfl, rfl, Below.refl _ _⟩
            · intro a' u hS hd
              obtain ⟨_, e0, rfl⟩ := hd 0 (by kernel_rfl)
              have f0 : a'.tmps[35]? = some _ := e0
              clear e0
              obtain ⟨_, e1, rfl⟩ := hd 1 (by kernel_rfl)
              have f1 : a'.tmps[36]? = some _ := e1
              clear e1
              clear hd
              go_simp
              exact ⟨_, rfl, rfl, Below.refl _ _⟩
            · intro a' u hS hd
              obtain ⟨_, e0, rfl⟩ := hd 2 (by kernel_rfl)
              have f0 : a'.tmps[37]? = some _ := e0
              clear e0
              clear hd
              go_simp
              exact ⟨_, rfl, rfl, Below.refl _ _⟩
            · intro a' u hS hd
              obtain ⟨_, e0, rfl⟩ := hd 3 (by kernel_rfl)
              have f0 : a'.tmps[38]? = some _ := e0
              clear e0
              clear hd
              have x0 := keep_cell hS.2 cx
              go_simp
              exact ⟨_, rfl, rfl, Below.refl _ _⟩
            · intro a' u hS hd
              obtain ⟨_, e0, rfl⟩ := hd 4 (by kernel_rfl)
              have f0 : a'.tmps[39]? = some _ := e0
              clear e0
              clear hd
              have kcv := run_bytes_of_string (P := Tryd.prog) u 9 22 5 x.s Tryd.underlying9 Tryd.underlying22 Tryd.underlying5
              rw [HLET.out] at kcv
              go_simp
              exact ⟨_, rfl, ⟨_, _, rfl, _, markRow_new u x.s HLET.out hS.2.size⟩, (Below.drew (Below.refl _ _)).alloc (Nat.le_refl _) _⟩
            · intro a' u hS hd
              clear hd
              have g0 := hS.1.1
              go_simp
              exact ⟨_, rfl, rfl, Below.refl _ _⟩
            · intro a' u hS hd
              clear hd
              have g0 := hS.1.2
              go_simp
              exact ⟨_, rfl, rfl, Below.refl _ _⟩
            · intro a' u hS hd
              obtain ⟨_, e0, rfl⟩ := hd 6 (by kernel_rfl)
              have f0 : a'.tmps[41]? = some _ := e0
              clear e0
              obtain ⟨_, e1, rfl⟩ := hd 7 (by kernel_rfl)
              have f1 : a'.tmps[42]? = some _ := e1
              clear e1
              clear hd
              go_simp
              exact ⟨_, rfl, rfl, Below.refl _ _⟩
            · intro a' u hS hd
              obtain ⟨_, e0, rfl⟩ := hd 8 (by kernel_rfl)
              have f0 : a'.tmps[43]? = some _ := e0
              clear e0
              clear hd
              go_simp
              exact ⟨_, rfl, rfl, Below.refl _ _⟩
            · intro a' u hS hd
              obtain ⟨_, e0, rfl⟩ := hd 9 (by kernel_rfl)
              have f0 : a'.tmps[44]? = some _ := e0
              clear e0
              clear hd
              have x0 := keep_cell hS.2 cy
              go_simp
              exact ⟨_, rfl, rfl, Below.refl _ _⟩
          · intro a' u h
            obtain ⟨_, e0, rfl⟩ := h.new 0 (by decide) (by decide +kernel)
            obtain ⟨_, e1, rfl⟩ := h.new 1 (by decide) (by decide +kernel)
            obtain ⟨_, e2, rfl⟩ := h.new 2 (by decide) (by decide +kernel)
            obtain ⟨_, e3, rfl⟩ := h.new 3 (by decide) (by decide +kernel)
            obtain ⟨_, e4, rfl⟩ := h.new 4 (by decide) (by decide +kernel)
            obtain ⟨_, e5, g1, cp1, cur1, rfl, m1⟩ := h.new 5 (by decide) (by decide +kernel)
            obtain ⟨_, e6, rfl⟩ := h.new 6 (by decide) (by decide +kernel)
            obtain ⟨_, e7, rfl⟩ := h.new 7 (by decide) (by decide +kernel)
            obtain ⟨_, e8, rfl⟩ := h.new 8 (by decide) (by decide +kernel)
            obtain ⟨_, e9, rfl⟩ := h.new 9 (by decide) (by decide +kernel)
            obtain ⟨_, e10, rfl⟩ := h.new 10 (by decide) (by decide +kernel)
            have ht := set_all (Ds := [35, 36, 37, 38, 39, 40, 41, 42, 43, 44, 45]) [(35, .slice (some ⟨b, off, none⟩) n cap), (36, .int .i64 k), (37, .pointer (some ⟨b, off + k * 2, none⟩)), (38, .pointer (some ⟨b, off + k * 2, none⟩)), (39, .string x.s), (40, .slice (some ⟨g1, 0, none⟩) 4 cp1), (41, .slice (some ⟨b, off, none⟩) n cap), (42, .int .i64 k), (43, .pointer (some ⟨b, off + k * 2, none⟩)), (44, .pointer (some ⟨b, off + k * 2 + 1, none⟩)), (45, .slice x.p x.n x.cap)] rfl (by simp only [List.forall_mem_cons]; exact ⟨e0, e1, e2, e3, e4, e5, e6, e7, e8, e9, e10, fun _ h => nomatch h⟩) h.old h.size
            have hdf := h.defers
            have HBu := Lib.hid h.below
            clear h e0 e1 e2 e3 e4 e5 e6 e7 e8 e9 e10
            obtain ⟨tmps, defers⟩ := a'
            dsimp only at ht hdf
            subst hdf
            rw [ht]
            clear ht
            simp only [List.foldl_cons, List.foldl_nil, List.setIfInBounds_toArray, List.set_cons_zero, List.set_cons_succ]
            clear q1 q2 q3
            simp only [List.drop_succ_cons, List.drop_zero]
            have M1 := Lib.hid m1
            have HDu := Lib.hid (HD.out.below HBu.out)
            clear m1
            refine wpList_of_append rfl (.tmp 40) (.tmp 45) 22 22 rfl (run_append_mark _ _ wr.heap.size g1 4 cp1 cur1 _ M1.out (by rw [ck.bytesOf_length, HLET.out]) (by decide) HBu.out.size (ck.bytesOf_bytes _) x.p x.n x.cap x.d HDu.out (by omega)) ?_
            rintro v5 w5 ⟨⟨g5, c5, rfl, hg5b, hs5⟩, hg5⟩
            have hbr := HBu.out.grown hg5 HBu.out.size (fun j e => by cases e; exact M1.out.lies)
            obtain ⟨BD, hBD⟩ : ∃ z, ck.bytesOf x.s ++ x.d = z := ⟨_, rfl⟩
            rw [hBD] at hs5
            have HBDE := Lib.hid hBD
            have HS5 := Lib.hid hs5
            have HG5 := Lib.hid hg5b
            have HBR := Lib.hid hbr
            have cy5 := keep_cell hbr cy
            have HO5 := Lib.hid (ownsRow_below HO.out hbr)
            have HVL := Lib.hid (World.ownsRow.lt HO.out)
            have HB5 := Lib.hid (HB.out.trans (hbr.mono HB.out.size))
            clear hs5 hg5 hg5b hbr cx cy hBD
            go_wp2_with fail
            clear cy5
            refine (four_any x.n _ (by omega)).mono ?_
            rintro e w6 ⟨rfl, hw6⟩
            have S6 : Hid (Sl .u8 w6 (some ⟨w5.heap.size, 0, none⟩) 4 4 (ck.be4 x.n)) := Lib.hid (by rw [← hw6]; exact be4_sl _ _ (by omega))
            have hb6 : Below w5.heap.size w5 w6 := by rw [← hw6]; exact (Below.refl _ _).alloc (Nat.le_refl _) _
            have HO6 := Lib.hid (ownsRow_below HO5.out hb6)
            have HB6 := Lib.hid (HB5.out.trans (hb6.mono HB5.out.size))
            have HS6 := Lib.hid (HS5.out.below hb6)
            have hbdl : BD.length = 4 + x.n := HS5.out.len
            have HG6 : Hid (g5 < w6.heap.size) := Lib.hid (by
              obtain ⟨b9, o9, e9, hc9⟩ := HS6.out.cells (by omega)
              have := block_lt_of_cell (hc9 0 (by omega))
              simp only [Option.some.injEq, Addr.mk.injEq, and_true] at e9
              rw [e9.1]
              exact this)
            have HBY : Hid (sm.Bytes BD) := Lib.hid HS5.out.bytes
            clear hw6 hb6
            go_wp2_with (first
              | (at_builtin; refine wpList_of_append rfl (.tmp 47) (.tmp 55) 22 22 rfl (run_append_sl_at _ _ w.heap.size vq J.length J HO6.out ⟨w5.heap.size, 0, none⟩ 4 4 _ S6.out (by omega) HB6.out.size) ?_; rintro v7 w7 ⟨⟨ho7, hg7⟩, hv7⟩; have HO7 := Lib.hid ho7; have HS7 := Lib.hid (HS6.out.grown hg7 (fun e => by have h1 := (HVL.out _ e.symm).2; have h2 := HG5.out; omega)); have HB7 := Lib.hid (HB6.out.grown hg7 HB6.out.size (fun j e => (World.ownsRow.lt HO6.out j e).1)); have HV7 : Hid (some g5 ≠ v7.ownBlock) := Lib.hid (fun e => by rcases hv7 with h | h <;> (rw [h] at e; first | (have h1 := (HVL.out _ e.symm).2; have h2 := HG5.out; omega) | (have h1 := Option.some.inj e; have h2 := HG6.out; omega))); clear ho7 hg7 hv7)
              | (at_builtin; refine wpList_of_append rfl (.tmp 57) (.tmp 58) 22 22 rfl (run_append_sl _ _ w.heap.size v7 (J.length + 4) _ HO7.out (some ⟨g5, 0, none⟩) (4 + x.n) c5 BD HS7.out (by omega) HB7.out.size) ?_; rintro v8 w8 ⟨ho8, hg8⟩; have HO8 := Lib.hid ho8; have HS8 := Lib.hid (HS7.out.grown hg8 HV7.out); have HB8 := Lib.hid (HB7.out.grown hg8 HB7.out.size (fun j e => (World.ownsRow.lt HO7.out j e).1)); clear ho8 hg8))
            refine (refCrc_any _ _ _ _ _ HS8.out.len (Nat.le_trans HS8.out.fits HS8.out.most) HBY.out HS8.out.rd).mono ?_
            rintro e w9 ⟨rfl, rfl⟩
            have hcl : sm.crcOn 0 BD < 4294967296 := sm.crcOn_lt (by decide) HBY.out
            obtain ⟨cc, hcc⟩ : ∃ z, sm.crcOn 0 BD = z := ⟨_, rfl⟩
            rw [hcc] at hcl ⊢
            have HCC := Lib.hid hcc
            clear hcc
            go_wp2_with fail
            refine (four_any cc _ hcl).mono ?_
            rintro e w9 ⟨rfl, hw9⟩
            have S9 : Hid (Sl .u8 w9 (some ⟨w8.heap.size, 0, none⟩) 4 4 (ck.be4 cc)) := Lib.hid (by rw [← hw9]; exact be4_sl _ _ hcl)
            have hb9 : Below w8.heap.size w8 w9 := by rw [← hw9]; exact (Below.refl _ _).alloc (Nat.le_refl _) _
            have HO9 := Lib.hid (ownsRow_below HO8.out hb9)
            have HB9 := Lib.hid (HB8.out.trans (hb9.mono HB8.out.size))
            clear hw9 hb9
            go_wp2_with (at_builtin; go_must (refine wpList_of_append rfl (.tmp 60) (.tmp 63) 22 22 rfl (run_append_sl _ _ w.heap.size v8 (J.length + 4 + (4 + x.n)) _ HO9.out (some ⟨w8.heap.size, 0, none⟩) 4 4 _ S9.out (by omega) HB9.out.size) ?_; rintro v10 w10 ⟨ho10, hg10⟩; have HO10 := Lib.hid ho10; have HB10 := Lib.hid (HB9.out.grown hg10 HB9.out.size (fun j e => (World.ownsRow.lt HO9.out j e).1)); clear ho10 hg10))
            have hEN : ck.joinedTo cs (k + 1) = J ++ ck.be4 x.n ++ BD ++ ck.be4 cc := by
              rw [HSU.out]
              unfold ck.encode ck.Arg.ck
              simp only
              rw [HXL.out, Nat.mod_eq_of_lt (by omega), HBDE.out, HCC.out]
              simp only [List.append_assoc, HBDE.out]
            have hLN : (ck.joinedTo cs (k + 1)).length = J.length + 4 + (4 + x.n) + 4 := by
              rw [hEN, List.length_append, List.length_append, List.length_append, hbdl]
              rfl
            go_roundg (n - (k + 1))
            case measure => have := Hg.out; omega
            case rel => exact ⟨k + 1, by omega, rfl, by go_num, by rw [hLN, hEN]; exact HO10.out, HB10.out, fun j hj => by
              rcases Nat.lt_or_ge j k with h | h
              · exact HOk.out j h
              · obtain rfl : j = k := by omega
                exact HOKk.out⟩
        · have q3 : (e1 != e2) = true := by simpa using he
          have q4 : (!(e1 == e2)) = true := by simpa using he
          have q5 : (e1 == e2) = false := by simpa using he
          have HN : Hid (ck.join cs = none) := Lib.hid (ck.joinOk_false (k := k) (by rw [HL.out]; exact hlt) (by rw [HAT.out]; simpa using he))
          clear HAT he
          go_wp2_with fail
          go_ret2
          rw [HN.out]
          exact ⟨rfl, HB.out⟩
      · have h1' : ck.letters4 x.s = false := by simpa using h1
        have HN : Hid (ck.join cs = none) := Lib.hid (ck.joinOk_false (k := k) (by rw [HL.out]; exact hlt) (by rw [HAT.out, h1']; rfl))
        rw [h1']
        clear h1 h1' HAT
        go_wp2_with fail
        go_ret2
        rw [HN.out]
        exact ⟨rfl, HB.out⟩
    · obtain rfl : k = n := by omega
      by_cases h0 : k = 0
      · have HN : Hid (ck.join cs = none) := Lib.hid (by
          have : cs = [] := List.eq_nil_of_length_eq_zero (HL.out.trans h0)
          rw [this]
          rfl)
        have h0' : ((k : Int) == 0) = true := by simp; omega
        clear h0
        go_wp2_with fail
        go_ret2
        rw [HN.out]
        exact ⟨rfl, HB.out⟩
      · have h0' : ((k : Int) == 0) = false := by simp; omega
        have HJN : Hid (ck.join cs = some (ck.joined cs)) := Lib.hid (ck.joinOk_true (by
          intro e
          have := HL.out
          rw [e] at this
          exact h0 this.symm) (fun i hi => HOk.out i (by rw [← HL.out]; exact hi)))
        have HJE : Hid (ck.joinedTo cs k = ck.joined cs) := Lib.hid (by unfold ck.joined; rw [HL.out])
        clear h0
        go_wp2_with fail
        go_ret2
        rw [HJN.out]
        have := HO.out
        rw [HJE.out] at this
        exact ⟨vq, rfl, this, HB.out⟩
end Go.Proofs.YtfaemhmefijaoaaDoor
