/- ChunkOwn: spoil, lists that are written over, the law's walk. -/
import Derived.Test.YtfaemhmefijaoaaDoorCkLaw6
namespace Go.Proofs.YtfaemhmefijaoaaDoor
open Go.RowKit Go.Sort

/-- one byte of a row of one's own is written -/
theorem own_put {w : World} {base g n c k : Nat} {l : List Int} (y : Int) (h : w.ownsRow base 5 1 (.slice (some ⟨g, 0, none⟩) n c) n (l.map (Value.int .u8))) (_hk : k < n) :
    (w.setCell ⟨g, k, none⟩ (.int .u8 y)).ownsRow base 5 1 (.slice (some ⟨g, 0, none⟩) n c) n ((l.set k y).map (Value.int .u8)) := by
  rcases h.2 with ⟨h', _⟩ | ⟨g', cap, cur, h', h1, h2, h3, h4, h5, h6⟩
  · cases h'
  · simp only [Value.slice.injEq, Option.some.injEq, Addr.mk.injEq, and_true, true_and] at h'
    obtain ⟨rfl, rfl⟩ := h'
    have hl : l.length = n := by
      have := h.1
      simpa using this
    refine ⟨by rw [List.length_map, List.length_set, hl, Nat.mul_one], .inr ⟨g, c, cur.setIfInBounds k (.int .u8 y), rfl, h1, ?_, h3, h4, by rw [Array.size_setIfInBounds]; exact h5, ?_⟩⟩
    · rw [setCell_eq_setRow w g k cur 5 (0, 0) _ h2]
      exact setRow_heap w g cur _ _ _ h2
    · rw [Array.toList_setIfInBounds, List.take_set, h6, List.map_set]

theorem grown_new {a b c : World} {ob row : Option Nat} (h : a.grownBy b ob) (k : b.grownBy c row) (hr : row = ob ∨ ∃ j, row = some j ∧ a.heap.size ≤ j) : a.grownBy c ob := by
  refine ⟨k.os.trans h.os, k.tape.trans h.tape, k.output.trans h.output, Nat.le_trans h.size k.size, fun i hi hne => ?_⟩
  have h1 : some i ≠ row := by
    rcases hr with rfl | ⟨j, rfl, hj⟩
    · exact hne
    · intro e
      have := Option.some.inj e
      omega
  exact (k.block i (Nat.lt_of_lt_of_le hi h.size) h1).trans (h.block i hi hne)
set_option maxRecDepth 100000 in
set_option maxHeartbeats 3200000 in
theorem spoil_any (base : Nat) (a : Option Addr) (n c : Nat) (l : List Int) (w : World) (h : w.ownsRow base 5 1 (.slice a n c) n (l.map (Value.int .u8))) (hb : sm.Bytes l) (hn : n ≤ 16777216) (hw : base ≤ w.heap.size) :
    Calls Tryd.prog 27 #[.slice a n c] w fun e w' => (∃ v, e = .returned v) ∧ w.grownBy w' (Value.slice a n c).ownBlock := by
  have HO := Lib.hid h
  have HBY := Lib.hid hb
  clear h hb
  go_enter Tryd.func27, Tryd.ntmps27
  go_wp2_with fail
  go_loopg [6] n (fun gk i wr => ∃ (k : Nat) (l' : List Int), k ≤ n ∧ gk = n - k ∧ i = .int .i64 k ∧ wr.ownsRow base 5 1 (.slice a n c) n (l'.map (Value.int .u8)) ∧ sm.Bytes l' ∧ w.grownBy wr (Value.slice a n c).ownBlock)
  case atStart => exact ⟨0, l, Nat.zero_le _, rfl, rfl, HO.out, HBY.out, World.grownBy.refl _ _⟩
  case round =>
    obtain ⟨k, l', hk, hg, rfl, hown, hby, hbe⟩ := hrel
    have Hg := Lib.hid hg
    have HO1 := Lib.hid hown
    have HB1 := Lib.hid hby
    have HBE := Lib.hid hbe
    clear hg hby hbe
    by_cases hlt : k < n
    · obtain ⟨g, cap, he, _⟩ := own_form hown (by omega)
      simp only [Value.slice.injEq, true_and] at he
      obtain ⟨rfl, rfl⟩ := he
      obtain ⟨cur, hcur, hck, hcz, _⟩ := own_cur hown hlt
      have ck0 := cell_of_row _ _ k _ _ (0, 0) hcur
      rw [hck] at ck0
      have fk0 := frozen_of_row _ _ k _ _ hcur
      have hzb := byte_getD HB1.out k
      obtain ⟨z, hz⟩ : ∃ z, l'.getD k 0 = z := ⟨_, rfl⟩
      rw [hz] at ck0 hzb
      clear hown hcur hck hz
      obtain ⟨y, hy⟩ : ∃ y, IntKind.u8.wrap (z + 1) = y := ⟨_, rfl⟩
      have hyb : 0 ≤ y ∧ y < 256 := by rw [← hy, IntKind.wrap_u8]; omega
      go_wp2_with fail
      go_roundg (n - (k + 1))
      case measure => have := Hg.out; omega
      case rel => exact ⟨k + 1, l'.set k y, by omega, rfl, by go_num, own_put y HO1.out hlt, fun x hx => by
        rcases List.mem_or_eq_of_mem_set hx with h1 | rfl
        · exact HB1.out x h1
        · exact hyb, grown_join HBE.out (grownBy_setCell3 wr g k _)⟩
    · obtain rfl : k = n := by omega
      clear hown
      go_wp2_with fail
      go_loopg [0, 3] 20 (fun gk v i wr => ∃ (q : Nat) (l2 : List Int), q ≤ 20 ∧ gk = 20 - q ∧ i = .int .i64 q ∧ wr.ownsRow base 5 1 v (k + q) (l2.map (Value.int .u8)) ∧ w.grownBy wr (Value.slice a k c).ownBlock ∧ (v.ownBlock = (Value.slice a k c).ownBlock ∨ ∃ j, v.ownBlock = some j ∧ w.heap.size ≤ j))
      case atStart => exact ⟨0, l', Nat.zero_le _, rfl, rfl, HO1.out, HBE.out, .inl rfl⟩
      case round =>
        obtain ⟨vq, hvq⟩ : ∃ x, x = u0 := ⟨_, rfl⟩
        subst hvq
        obtain ⟨q, l2, hq, hg2, rfl, hown, hbe, hvb⟩ := hrel
        have HVB := Lib.hid hvb
        have Hg2 := Lib.hid hg2
        have HO2 := Lib.hid hown
        have HBE2 := Lib.hid hbe
        clear hg2 hown hbe hvb
        by_cases hlt2 : q < 20
        · have S5 := Lib.hid (sl_bytes wr [5] 5 (0, 0) _ rfl (by decide) (by decide))
          have HO3 := Lib.hid (ownsRow_below HO2.out ((Below.refl _ _).alloc (Nat.le_refl _) (.cells #[.int .u8 5] 5)))
          have HB3 := Lib.hid (grown_join HBE2.out (World.grownBy_alloc wr (.cells #[.int .u8 5] 5) (Value.slice a k c).ownBlock))
          have hbs : base ≤ (wr.alloc (.cells #[.int .u8 5] 5)).heap.size := Nat.le_trans hw HB3.out.size
          go_wp2_with (at_builtin; go_must (refine wpList_of_append rfl (.tmp 22) (.tmp 23) 22 22 rfl (run_append_sl_at _ _ base vq (k + q) l2 HO3.out ⟨wr.heap.size, 0, none⟩ 1 1 [5] S5.out (by omega) hbs) ?_; rintro v7 w7 ⟨⟨ho7, hg7⟩, hv7⟩; have HO7 := Lib.hid ho7; have HB7 := Lib.hid (grown_new HB3.out hg7 HVB.out); have HV7 : Hid (v7.ownBlock = (Value.slice a k c).ownBlock ∨ ∃ j, v7.ownBlock = some j ∧ w.heap.size ≤ j) := Lib.hid (by rcases hv7 with h | h <;> rw [h]; exact HVB.out; exact .inr ⟨_, rfl, HB3.out.size⟩); clear ho7 hg7 hv7))
          go_roundg (20 - (q + 1))
          case measure => have := Hg2.out; omega
          case rel => exact ⟨q + 1, _, by omega, rfl, by go_num, HO7.out, HB7.out, HV7.out⟩
        · obtain rfl : q = 20 := by omega
          go_wp2_with fail
          refine bodyPost_end (results_none rfl _ _ _) rfl ?_
          exact ⟨⟨_, rfl⟩, HBE2.out⟩

theorem filt_len (width bpp kind : Int) (l : List Int) {wn m : Nat} (hw : width = wn) (hm : l.length = m * wn) (h1 : 1 ≤ wn) : (ck.filt width bpp kind l).length = m * (wn + 1) := by
  unfold ck.filt
  rw [ck.filtTo_length, hw, Int.toNat_natCast, hm, Nat.mul_div_cancel _ (by omega)]
/-- what is filtered comes back -/
theorem filt_back {width bpp kind : Int} {l O : List Int} (hl : ∀ v ∈ l, 0 ≤ v ∧ v < 256) (h : ck.filtR width bpp kind l = some O) : ck.unfErr width bpp O = 0 ∧ ck.unfOut width bpp O = l ∧ O.length ≤ 2 * l.length := by
  unfold ck.filtR at h
  split at h
  · rename_i hok
    obtain ⟨h1, h2, h3, h4⟩ := hok
    obtain ⟨q1, q2, q3, q4⟩ := of_decide_eq_true h1
    obtain ⟨wn, rfl⟩ : ∃ wn : Nat, width = wn := ⟨width.toNat, by omega⟩
    obtain ⟨bn, rfl⟩ : ∃ bn : Nat, bpp = bn := ⟨bpp.toNat, by omega⟩
    rw [Int.toNat_natCast] at h4
    have hd := Nat.div_add_mod l.length wn
    rw [h4, Nat.add_zero, Nat.mul_comm] at hd
    obtain ⟨m, hm⟩ : ∃ m, l.length / wn = m := ⟨_, rfl⟩
    rw [hm] at hd
    obtain rfl := Option.some.inj h
    have hlen := filt_len wn bn kind l rfl hd.symm (by omega)
    have hO : ck.filt wn bn kind l = ck.filtTo wn bn kind l m := by unfold ck.filt; rw [Int.toNat_natCast, Int.toNat_natCast, hm]
    have hdiv : (ck.filt wn bn kind l).length / (wn + 1) = m := by rw [hlen, Nat.mul_div_cancel _ (by omega)]
    have hE : ck.unfErr wn bn (ck.filt wn bn kind l) = 0 := by
      unfold ck.unfErr
      rw [if_pos h1, Int.toNat_natCast, hdiv, if_pos]
      exact ⟨by rw [hlen, Nat.mul_mod_left], by rw [hO]; exact ck.filt_kinds wn bn kind l m h3⟩
    refine ⟨hE, ?_, ?_⟩
    · unfold ck.unfOut
      rw [if_pos hE, Int.toNat_natCast, Int.toNat_natCast, hdiv, hO, ck.unf_filt wn bn kind l m (by omega) hd.symm hl m (Nat.le_refl _), hd, List.take_length]
    · have : m ≤ m * wn := Nat.le_mul_of_pos_right _ (by omega)
      rw [hlen, Nat.mul_succ]
      omega
  · cases h
theorem filt_bytes {width bpp kind : Int} {l O : List Int} (h : ck.filtR width bpp kind l = some O) : ∀ v ∈ O, 0 ≤ v ∧ v < 256 := by
  unfold ck.filtR at h
  split at h
  · rename_i hok
    obtain ⟨_, h2, h3, _⟩ := hok
    obtain rfl := Option.some.inj h
    intro v hv
    unfold ck.filt ck.filtTo at hv
    obtain ⟨i, _, hv⟩ := List.mem_flatMap.1 hv
    unfold ck.fTo at hv
    rcases List.mem_cons.1 hv with rfl | hv
    · omega
    · obtain ⟨x, _, rfl⟩ := List.mem_map.1 hv
      exact fByte_byte
  · cases h

/-- all but the blocks from B to C stay -/
structure Only (B C : Nat) (w w' : World) : Prop where
  os : w'.os = w.os
  tape : w'.tape = w.tape
  output : w'.output = w.output
  size : w.heap.size ≤ w'.heap.size
  block : ∀ k, k < w.heap.size → (k < B ∨ C ≤ k) → w'.heap[k]? = w.heap[k]?
theorem Only.refl (B C : Nat) (w : World) : Only B C w w := ⟨rfl, rfl, rfl, Nat.le_refl _, fun _ _ _ => rfl⟩
theorem Only.trans {B C : Nat} {a b c : World} (h : Only B C a b) (k : Only B C b c) : Only B C a c :=
  ⟨k.os.trans h.os, k.tape.trans h.tape, k.output.trans h.output, Nat.le_trans h.size k.size, fun i hi hd => (k.block i (Nat.lt_of_lt_of_le hi h.size) hd).trans (h.block i hi hd)⟩
theorem Only.below {B C : Nat} {a b c : World} (h : Only B C a b) (k : Below b.heap.size b c) : Only B C a c :=
  h.trans ⟨k.os, k.tape, k.output, k.size, fun i hi _ => k.block i hi⟩
theorem Only.set {B C : Nat} {a b : World} (h : Only B C a b) {g i : Nat} (h1 : B ≤ g) (h2 : g < C) (v : Value) : Only B C a (b.setCell ⟨g, i, none⟩ v) :=
  h.trans ⟨rfl, rfl, rfl, by simp [World.setCell], fun k _ hd => Below.heap_setCell _ _ _ _ (show k ≠ g by omega)⟩
theorem Only.low {B C : Nat} {a b : World} (h : Only B C a b) (hb : B ≤ a.heap.size) : Below B a b :=
  ⟨h.os, h.tape, h.output, h.size, fun k hk => h.block k (Nat.lt_of_lt_of_le hk hb) (.inl hk)⟩
theorem own_only {B C base size n : Nat} {w w' : World} {e : TypeId} {v : Value} {xs : List Value} (h : w.ownsRow base e size v n xs) (ho : Only B C w w') (hc : C ≤ base) : w'.ownsRow base e size v n xs := by
  refine ⟨h.1, ?_⟩
  rcases h.2 with h1 | ⟨g, cap, cur, h1, h2, h3, h4⟩
  · exact .inl h1
  · exact .inr ⟨g, cap, cur, h1, h2, (ho.block g (block_lt h3) (.inr (Nat.le_trans hc h2))).trans h3, h4⟩
/-- a row stays where its block stays -/
theorem own_keep {base size n C S : Nat} {w w' : World} {e : TypeId} {v : Value} {xs : List Value} (h : w.ownsRow base e size v n xs) (hk : ∀ k, C ≤ k → k < S → w'.heap[k]? = w.heap[k]?) (hc : C ≤ base) (hs : w.heap.size ≤ S) : w'.ownsRow base e size v n xs := by
  refine ⟨h.1, ?_⟩
  rcases h.2 with h1 | ⟨g, cap, cur, h1, h2, h3, h4⟩
  · exact .inl h1
  · exact .inr ⟨g, cap, cur, h1, h2, (hk g (Nat.le_trans hc h2) (Nat.lt_of_lt_of_le (block_lt h3) hs)).trans h3, h4⟩
/-- a list of chunks that is being written over -/
structure ck.Loose (B C gx : Nat) (xs : List ck.El) (w : World) : Prop where
  lo : B ≤ gx
  hi : gx < C
  head : ∃ cur, w.heap[gx]? = some (.cells cur 57 (0, 0)) ∧ ∀ i x, xs[i]? = some x → (∃ s, cur[i * 2]? = some (.string s)) ∧ cur[i * 2 + 1]? = some (.slice (some ⟨x.g, 0, none⟩) x.d.length x.cap)
  data : ∀ x ∈ xs, B ≤ x.g ∧ x.g < C ∧ x.d.length ≤ x.cap ∧ x.cap ≤ maxLen ∧ ∃ cur, w.heap[x.g]? = some (.cells cur 5 (0, 0)) ∧ ∀ k, k < x.d.length → ∃ z : Int, cur[k]? = some (.int .u8 z) ∧ 0 ≤ z ∧ z < 256
theorem ck.Loose.below {B C gx : Nat} {xs : List ck.El} {w w' : World} (h : ck.Loose B C gx xs w) (hb : Below w.heap.size w w') : ck.Loose B C gx xs w' := by
  refine ⟨h.lo, h.hi, ?_, fun x hx => ?_⟩
  · obtain ⟨cur, h1, h2⟩ := h.head
    exact ⟨cur, (hb.block _ (block_lt h1)).trans h1, h2⟩
  · obtain ⟨q1, q2, q3, q4, cur, h1, h2⟩ := h.data x hx
    exact ⟨q1, q2, q3, q4, cur, (hb.block _ (block_lt h1)).trans h1, h2⟩
theorem ck.Loose.apart {B C gx : Nat} {xs : List ck.El} {w : World} (h : ck.Loose B C gx xs w) {x : ck.El} (hx : x ∈ xs) : x.g ≠ gx := by
  intro e
  obtain ⟨cur, h1, _⟩ := h.head
  obtain ⟨_, _, _, _, cur', h2, _⟩ := h.data x hx
  rw [e, h1] at h2
  simp only [Option.some.injEq, Obj.cells.injEq] at h2
  exact absurd h2.2.1 (by decide)
theorem ck.Loose.byte {B C gx : Nat} {xs : List ck.El} {w : World} (h : ck.Loose B C gx xs w) {x : ck.El} (hx : x ∈ xs) (q : Nat) (y : Int) (hy : 0 ≤ y ∧ y < 256) : ck.Loose B C gx xs (w.setCell ⟨x.g, q, none⟩ (.int .u8 y)) := by
  have hap := h.apart hx
  refine ⟨h.lo, h.hi, ?_, fun x' hx' => ?_⟩
  · obtain ⟨cur, h1, h2⟩ := h.head
    exact ⟨cur, (Below.heap_setCell _ _ _ _ (Ne.symm hap)).trans h1, h2⟩
  · obtain ⟨q1, q2, q3, q4, cur, h1, h2⟩ := h.data x' hx'
    refine ⟨q1, q2, q3, q4, ?_⟩
    by_cases hg : x'.g = x.g
    · rw [hg] at h1 ⊢
      rw [setCell_eq_setRow w x.g q cur 5 (0, 0) _ h1]
      refine ⟨_, setRow_heap w x.g cur _ _ _ h1, fun k hk => ?_⟩
      obtain ⟨z, hz, hzb⟩ := h2 k hk
      by_cases hkq : q = k
      · subst hkq
        have hs : q < cur.size := (Array.getElem?_eq_some_iff.1 hz).1
        exact ⟨y, by simp [hs], hy⟩
      · exact ⟨z, by rw [Array.getElem?_setIfInBounds_ne hkq, hz], hzb⟩
    · exact ⟨cur, (Below.heap_setCell _ _ _ _ hg).trans h1, h2⟩
theorem ck.Loose.name {B C gx : Nat} {xs : List ck.El} {w : World} (h : ck.Loose B C gx xs w) (i : Nat) (s : ByteArray) : ck.Loose B C gx xs (w.setCell ⟨gx, i * 2, none⟩ (.string s)) := by
  refine ⟨h.lo, h.hi, ?_, fun x hx => ?_⟩
  · obtain ⟨cur, h1, h2⟩ := h.head
    rw [setCell_eq_setRow w gx (i * 2) cur 57 (0, 0) _ h1]
    refine ⟨_, setRow_heap w gx cur _ _ _ h1, fun j x hx => ?_⟩
    obtain ⟨⟨s', h3⟩, h4⟩ := h2 j x hx
    refine ⟨?_, by rw [Array.getElem?_setIfInBounds_ne (by omega), h4]⟩
    by_cases hij : i = j
    · subst hij
      have hs : i * 2 < cur.size := (Array.getElem?_eq_some_iff.1 h3).1
      exact ⟨s, by simp [hs]⟩
    · exact ⟨s', by rw [Array.getElem?_setIfInBounds_ne (by omega), h3]⟩
  · obtain ⟨q1, q2, q3, q4, cur, h1, h2⟩ := h.data x hx
    exact ⟨q1, q2, q3, q4, cur, (Below.heap_setCell _ _ _ _ (h.apart hx)).trans h1, h2⟩
theorem ck.At.loose {B : Nat} {w : World} {v : Value} {xs : List ck.El} (h : ck.At B w v xs) (hb : ∀ x ∈ xs, sm.Bytes x.d) (h0 : 0 < xs.length) : ∃ gx c, v = .slice (some ⟨gx, 0, none⟩) xs.length c ∧ ck.Loose B w.heap.size gx xs w := by
  rcases h.row.2 with ⟨_, h'⟩ | ⟨g, cap, cur, rfl, h1, h2, h3, h4, h5, h6⟩
  · omega
  · refine ⟨g, cap, rfl, h1, block_lt h2, ⟨cur, h2, fun i x hx => ?_⟩, fun x hx => ?_⟩
    · obtain ⟨c1, c2⟩ := ck.cells_get xs i x hx
      have hi : i < xs.length := (List.getElem?_eq_some_iff.1 hx).1
      rw [← h6, List.getElem?_take, if_pos (by omega)] at c1 c2
      exact ⟨⟨_, by simpa using c1⟩, by simpa using c2⟩
    · rcases (h.ok x hx).2 with ⟨h', _⟩ | ⟨g', cap', cur', h', k1, k2, k3, k4, k5, k6⟩
      · cases h'
      · simp only [Value.slice.injEq, Option.some.injEq, Addr.mk.injEq, and_true, true_and] at h'
        obtain ⟨rfl, rfl⟩ := h'
        refine ⟨k1, block_lt k2, k3, k4, cur', k2, fun k hk => ⟨x.d.getD k 0, ?_, ?_⟩⟩
        · have e := congrArg (fun l : List Value => l[k]?) k6
          simp only [Nat.mul_one] at e
          rw [List.getElem?_take, if_pos hk, List.getElem?_map, List.getElem?_eq_getElem hk] at e
          rw [← Array.getElem?_toList, e]
          simp [List.getD_eq_getElem?_getD, hk]
        · exact byte_getD (hb x hx) k
/-- what Split answers, to be written over -/
theorem SplitPost.loose {bs : List Int} (hb : sm.Bytes bs) {w : World} {e : Ending} {w' : World} (h : SplitPost (ck.split bs) w e w') :
    ∃ a n c xs E, e = .returned (.tuple #[.slice a n c, .int .i64 E]) ∧ xs.length = n ∧ n ≤ maxLen ∧ (n = 0 ∨ ∃ gx, a = some ⟨gx, 0, none⟩ ∧ ck.Loose w.heap.size w'.heap.size gx xs w') ∧ n ≤ c ∧ Below w.heap.size w w' := by
  unfold SplitPost at h
  split at h
  · obtain ⟨rfl, h2⟩ := h
    exact ⟨none, 0, 0, [], _, rfl, rfl, Nat.zero_le _, .inl rfl, Nat.le_refl _, h2⟩
  · rename_i cs hr
    obtain ⟨v, xs, rfl, h2, h3, h4⟩ := h
    have hg := split_good hb hr
    have hx : ∀ x ∈ xs, x.ck ∈ cs := fun x hx => by rw [← h3]; exact List.mem_map_of_mem hx
    obtain ⟨a, c, rfl, q1, q2, _⟩ := own_slice' h2.row
    refine ⟨a, _, c, xs, _, rfl, rfl, Nat.le_trans q1 q2, ?_, q1, h4⟩
    rcases Nat.eq_zero_or_pos xs.length with h0 | h0
    · exact .inl h0
    · obtain ⟨gx, c', he, hl⟩ := h2.loose (fun x h => (hg _ (hx x h)).2.2.2.2) h0
      simp only [Value.slice.injEq] at he
      exact .inr ⟨gx, he.1, hl⟩
/-- and to be kept -/
theorem SplitPost.kept {bs : List Int} (hb : sm.Bytes bs) {w : World} {e : Ending} {w' : World} (h : SplitPost (ck.split bs) w e w') :
    ∃ a n c xs E, e = .returned (.tuple #[.slice a n c, .int .i64 E]) ∧ ck.At w.heap.size w' (.slice a n c) xs ∧ (∀ x ∈ xs, sm.Bytes x.d) ∧ (∀ x ∈ xs, (strOfNums x.t).size ≤ maxLen) ∧ (xs.map (·.arg)).map (·.ck) = (ck.split bs).getD [] ∧ Below w.heap.size w w' := by
  unfold SplitPost at h
  split at h
  · rename_i hr
    obtain ⟨rfl, h2⟩ := h
    exact ⟨none, 0, 0, [], _, rfl, ⟨World.ownsRow_nil _ _ _ _, (fun _ h => nomatch h)⟩, (fun _ h => nomatch h), (fun _ h => nomatch h), by rw [hr]; rfl, h2⟩
  · rename_i cs hr
    obtain ⟨v, xs, rfl, h2, h3, h4⟩ := h
    have hg := split_good hb hr
    have hx : ∀ x ∈ xs, x.ck ∈ cs := fun x hx => by rw [← h3]; exact List.mem_map_of_mem hx
    obtain ⟨a, c, rfl, _⟩ := own_slice' h2.row
    refine ⟨a, _, c, xs, _, rfl, h2, fun x h => (hg _ (hx x h)).2.2.2.2, fun x h => ?_, ?_, h4⟩
    · rw [strOfNums_size]
      have : x.t.length = 4 := (hg _ (hx x h)).1
      rw [this]
      decide
    · rw [hr, List.map_map, ← h3]
      refine List.map_congr_left fun x h => ?_
      simp only [Function.comp, ck.El.arg, ck.Arg.ck, ck.El.ck]
      rw [ck.bytesOf_strOf (show sm.Bytes x.t from (hg _ (hx x h)).2.2.2.1)]
/-- a row of bytes, to be spoilt -/
def SpoilRow (k : Nat) (w : World) (e : Ending) (w' : World) : Prop :=
  ∃ a n c l E, e = .returned (.tuple #[.slice a n c, .int .i64 E]) ∧ w'.ownsRow w.heap.size 5 1 (.slice a n c) n (l.map (Value.int .u8)) ∧ sm.Bytes l ∧ n ≤ k ∧ Below w.heap.size w w'
theorem spoilRow_some {k : Nat} {w w' : World} {v : Value} {l : List Int} {E : Int} (hr : w'.ownsRow w.heap.size 5 1 v l.length (l.map (Value.int .u8))) (hb : sm.Bytes l) (hk : l.length ≤ k) (h : Below w.heap.size w w') : SpoilRow k w (.returned (.tuple #[v, .int .i64 E])) w' := by
  obtain ⟨a, c, rfl, _⟩ := own_slice' hr
  exact ⟨a, _, c, l, E, rfl, hr, hb, hk, h⟩
theorem spoilRow_none {k : Nat} {w w' : World} {E : Int} (h : Below w.heap.size w w') : SpoilRow k w (.returned (.tuple #[.slice none 0 0, .int .i64 E])) w' :=
  ⟨none, 0, 0, [], E, rfl, World.ownsRow_nil _ _ _ _, (fun _ h => nomatch h), Nat.zero_le _, h⟩
theorem JoinPost.row {cs : List ck.Ck} (hb : ∀ c ∈ cs, sm.Bytes c.1 ∧ sm.Bytes c.2) (hk : (ck.joined cs).length ≤ 4194304) {w : World} {e : Ending} {w' : World} (h : JoinPost (ck.join cs) w e w') : SpoilRow 4194304 w e w' := by
  unfold JoinPost at h
  split at h
  · obtain ⟨rfl, h2⟩ := h
    exact spoilRow_none h2
  · rename_i j hj
    obtain ⟨v, rfl, h2, h3⟩ := h
    obtain ⟨rfl, _⟩ := ck.okAt_all hj
    exact spoilRow_some h2 (ck.joinedTo_bytes hb _) hk h3
theorem FilterPost.row {width bpp kind : Int} {l : List Int} (hb : sm.Bytes l) (hk : l.length ≤ 1048576) {w : World} {e : Ending} {w' : World} (h : FilterPost (ck.filtR width bpp kind l) w e w') : SpoilRow 4194304 w e w' := by
  unfold FilterPost at h
  split at h
  · obtain ⟨rfl, h2⟩ := h
    exact spoilRow_none h2
  · rename_i O hj
    obtain ⟨v, rfl, h2, h3⟩ := h
    have := (filt_back hb hj).2.2
    exact spoilRow_some h2 (filt_bytes hj) (by omega) h3
theorem UnfPost.row {width bpp : Int} {l : List Int} (hk : l.length ≤ 1048576) {w : World} {e : Ending} {w' : World} (h : UnfPost (ck.unfErr width bpp l) (ck.unfOut width bpp l) w e w') : SpoilRow 4194304 w e w' := by
  obtain ⟨v, rfl, h2, h3⟩ := h
  refine spoilRow_some h2 ?_ ?_ h3
  · unfold ck.unfOut
    split
    · exact ck.unfTo_byte _ _ _ _
    · exact fun _ h => nomatch h
  · unfold ck.unfOut
    split
    · rw [ck.unfTo_length]
      have h4 := Nat.div_mul_le_self l.length (width.toNat + 1)
      have h5 : l.length / (width.toNat + 1) * width.toNat ≤ l.length / (width.toNat + 1) * (width.toNat + 1) := Nat.mul_le_mul_left _ (Nat.le_succ _)
      omega
    · exact Nat.zero_le _

theorem own_other {w : World} {base size n : Nat} {e : TypeId} {v : Value} {xs : List Value} (h : w.ownsRow base e size v n xs) {ob : Option Nat} (hx : ∀ k, ob = some k → k < base) : v.ownBlock = none ∨ v.ownBlock ≠ ob := by
  cases hv : v.ownBlock with
  | none => exact .inl rfl
  | some k =>
    refine .inr fun e => ?_
    have h1 := (World.ownsRow.lt h k hv).1
    have h2 := hx k e.symm
    omega
theorem ck.At.keep {B C S : Nat} {w w' : World} {v : Value} {xs : List ck.El} (h : ck.At B w v xs) (hk : ∀ k, C ≤ k → k < S → w'.heap[k]? = w.heap[k]?) (hc : C ≤ B) (hs : w.heap.size ≤ S) : ck.At B w' v xs :=
  ⟨own_keep h.row hk hc hs, fun x hx => own_keep (h.ok x hx) hk hc hs⟩

set_option maxRecDepth 100000 in
set_option maxHeartbeats 6400000 in
theorem chunkOwn_walk (p : Option Addr) (m cm : Nat) (ls : List ck.Arg) (a : Option Addr) (n cap : Nat) (l : List Int) (w : World) (hr : ck.Rd w p m cm ls) (hcm : cm ≤ 1048576) (hsm : ck.Small ls) (h : Sl .u8 w a n cap l) (hz : cap ≤ 1048576) :
    Calls Tryd.prog 9 #[.slice p m cm, .slice a n cap] w (Same8Post true w) := by
  have hn : n ≤ 1048576 := Nat.le_trans h.fits hz
  have hm : m ≤ 1048576 := Nat.le_trans hr.fits hcm
  have HS := Lib.hid h
  have HR := Lib.hid hr
  have HBL := Lib.hid h.bytes
  have HLL := Lib.hid h.len
  have HX : Hid (∀ x ∈ ls, x.n ≤ 140737488355328) := Lib.hid (fun x hx => Nat.le_trans (hsm.1 x hx) (by decide))
  have HBY := Lib.hid hr.bytes
  obtain ⟨cs, hcs⟩ : ∃ cs, ls.map (·.ck) = cs := ⟨_, rfl⟩
  have HJL : Hid ((ck.joined cs).length ≤ 4194304) := Lib.hid (by rw [← hcs]; exact hsm.2)
  have HCS := Lib.hid hcs
  rw [hcs] at HBY
  clear h hz hr hcm hsm hcs
  go_enter Tryd.func9, Tryd.ntmps9
  go_wp2_with fail
  refine (wakes_any _).mono ?_
  rintro e w1 ⟨rfl, hb1⟩
  have HB1 := Lib.hid hb1
  have HS1 := Lib.hid (HS.out.below hb1)
  clear hb1
  go_wp2_with fail
  refine (own8_any _ _ _ _ _ HS1.out (by omega)).mono ?_
  rintro e w2 ⟨g2, c2, rfl, hs2, hrow, hb⟩
  have HO2 := Lib.hid hrow
  have HB2 := Lib.hid (HB1.out.trans (hb.mono HB1.out.size))
  have HZ2 := Lib.hid hb.size
  clear hs2 hrow hb
  have S77 := Lib.hid (sl_bytes w2 [77] 5 (0, 0) _ rfl (by decide) (by decide))
  have HO3 := Lib.hid (ownsRow_below HO2.out ((Below.refl _ _).alloc (Nat.le_refl _) (.cells #[.int .u8 77] 5)))
  have HB3 := Lib.hid (HB2.out.alloc HB2.out.size (.cells #[.int .u8 77] 5))
  have hz3 : w1.heap.size ≤ (w2.alloc (.cells #[.int .u8 77] 5)).heap.size := by have := HZ2.out; simp; omega
  go_wp2_with (at_builtin; go_must (refine wpList_of_append rfl (.tmp 24) (.tmp 25) 22 22 rfl (run_append_sl _ _ w1.heap.size (.slice (some ⟨g2, 0, none⟩) n c2) n l HO3.out (some ⟨w2.heap.size, 0, none⟩) 1 1 [77] S77.out (by omega) hz3) ?_; rintro v4 w4 ⟨ho4, hg4⟩; obtain ⟨g4, c4, rfl, hnc4⟩ := own_form ho4 (by omega); have HS4 := Lib.hid (Fresh.sl ho4 (wf_of_bytes (HBL.out.append (fun x hx => by rw [List.mem_singleton.1 hx]; decide)))); have HB4 := Lib.hid (HB3.out.grown hg4 HB3.out.size (fun j e => Nat.le_trans HB1.out.size (World.ownsRow.lt HO3.out j e).1)); clear ho4 hg4))
  clear hz3 S77 HO3 HB3 HO2 HZ2 HB2
  have HR4 := Lib.hid (HR.out.below HB4.out)
  refine (chunks_rd _ _ _ _ _ HR4.out hm HX.out).mono ?_
  rintro e w5 ⟨a5, c5, xs5, rfl, _, hrd, hck, hb⟩
  obtain ⟨ls5, hls5⟩ : ∃ z, xs5.map (·.arg) = z := ⟨_, rfl⟩
  rw [hls5, HCS.out] at hck
  rw [hls5] at hrd
  have HR5 := Lib.hid hrd
  have HC5 := Lib.hid hck
  have HS5 := Lib.hid (HS4.out.below hb)
  have HB5 := Lib.hid (HB4.out.trans (hb.mono HB4.out.size))
  clear hrd hck hb hls5 HS4 HR4 HB4
  have htk : (l ++ [77]).take n = l := List.take_left' HLL.out
  have T5 : Hid (Sl .u8 w5 (some ⟨g4, 0, none⟩) n c4 l) := Lib.hid (by
    have h1 := HS5.out.take (m := n) (by omega)
    rw [htk] at h1
    exact h1)
  clear htk
  go_wp2_with fail
  refine (split_any g4 0 n c4 l _ T5.out (by omega)).mono ?_
  intro e w6 h6
  obtain ⟨a6, n6, c6, xs6, E6, rfl, hxl, hn6, hlo, hnc6, hb⟩ := h6.loose HBL.out
  have HXL := Lib.hid hxl
  unfold maxLen at hn6
  have HLO := Lib.hid hlo
  have D6 := Lib.hid hb
  clear h6 hxl hlo hb
  go_wp2_with fail
  refine (split_any g4 0 n c4 l _ (T5.out.below D6.out) (by omega)).mono ?_
  intro e w7 h7
  obtain ⟨a7, n7, c7, xs7, E7, rfl, hat, hb7, ht7, hm7, hb⟩ := h7.kept HBL.out
  have HAT := Lib.hid hat
  have HB7 := Lib.hid hb7
  have HT7 := Lib.hid ht7
  have HM7 := Lib.hid hm7
  have D7 := Lib.hid (D6.out.trans (hb.mono D6.out.size))
  have L7 := Lib.hid (HLO.out.imp_right (fun ⟨gx, e, h⟩ => ⟨gx, e, h.below hb⟩) : n6 = 0 ∨ ∃ gx, a6 = some ⟨gx, 0, none⟩ ∧ ck.Loose w5.heap.size w6.heap.size gx xs6 w7)
  have Z7 := Lib.hid hb.size
  clear h7 hat hb7 ht7 hm7 hb HLO
  go_wp2_with fail
  refine (join_any _ _ _ _ _ (HR5.out.below D7.out) (by rw [HC5.out]; exact Nat.le_trans HJL.out (by decide))).mono ?_
  rw [HC5.out]
  intro e w8 h8
  obtain ⟨a8, n8, c8, l8, E8, rfl, hr8, hb8, hk8, hb⟩ := h8.row HBY.out HJL.out
  have P8 := Lib.hid hr8
  have PB8 := Lib.hid hb8
  have D8 := Lib.hid (D7.out.trans (hb.mono D7.out.size))
  have L8 := Lib.hid (L7.out.imp_right (fun ⟨gx, e, h⟩ => ⟨gx, e, h.below hb⟩) : n6 = 0 ∨ ∃ gx, a6 = some ⟨gx, 0, none⟩ ∧ ck.Loose w5.heap.size w6.heap.size gx xs6 w8)
  have K8 := Lib.hid hb
  clear h8 hr8 hb8 hb L7
  go_wp2_with fail
  refine (filter_any (some ⟨g4, 0, none⟩) g4 0 n c4 1 1 2 l _ (T5.out.below D8.out) (.inr rfl) (by omega) (by decide) (by decide)).mono ?_
  intro e w9 h9
  obtain ⟨a9, n9, c9, l9, E9, rfl, hr9, hb9, hk9, hb⟩ := h9.row HBL.out (by rw [HLL.out]; exact hn)
  have P9 := Lib.hid hr9
  have PB9 := Lib.hid hb9
  have P8b := Lib.hid (ownsRow_below P8.out hb)
  have D9 := Lib.hid (D8.out.trans (hb.mono D8.out.size))
  have L9 := Lib.hid (L8.out.imp_right (fun ⟨gx, e, h⟩ => ⟨gx, e, h.below hb⟩) : n6 = 0 ∨ ∃ gx, a6 = some ⟨gx, 0, none⟩ ∧ ck.Loose w5.heap.size w6.heap.size gx xs6 w9)
  have K9 := Lib.hid (K8.out.trans (hb.mono K8.out.size))
  have Z9 := Lib.hid hb.size
  clear h9 hr9 hb9 hb L8
  go_wp2_with fail
  refine (unfilter_any (some ⟨g4, 0, none⟩) g4 0 n c4 1 1 l _ (T5.out.below D9.out) (.inr rfl) (by omega)).mono ?_
  intro e w10 h10
  obtain ⟨a10, n10, c10, l10, E10, rfl, hr10, hb10, hk10, hb⟩ := h10.row (by rw [HLL.out]; exact hn)
  have P10 := Lib.hid hr10
  have PB10 := Lib.hid hb10
  have P8c := Lib.hid (ownsRow_below P8b.out hb)
  have P9b := Lib.hid (ownsRow_below P9.out hb)
  have D10 := Lib.hid (D9.out.trans (hb.mono D9.out.size))
  have L10 := Lib.hid (L9.out.imp_right (fun ⟨gx, e, h⟩ => ⟨gx, e, h.below hb⟩) : n6 = 0 ∨ ∃ gx, a6 = some ⟨gx, 0, none⟩ ∧ ck.Loose w5.heap.size w6.heap.size gx xs6 w10)
  have K10 := Lib.hid (K9.out.trans (hb.mono K9.out.size))
  have Z10 := Lib.hid hb.size
  clear h10 hr10 hb10 hb L9
  go_wp2_with fail
  go_loopg [68] n6 (fun gk i wr => ∃ (k : Nat), k ≤ n6 ∧ gk = n6 - k ∧ i = .int .i64 k ∧ (n6 = 0 ∨ ∃ gx, a6 = some ⟨gx, 0, none⟩ ∧ ck.Loose w5.heap.size w6.heap.size gx xs6 wr) ∧ Only w5.heap.size w6.heap.size w10 wr)
  case atStart => exact ⟨0, Nat.zero_le _, rfl, rfl, L10.out, Only.refl _ _ _⟩
  case round =>
    obtain ⟨k, hk, hg, rfl, hlo, hon⟩ := hrel
    have Hg := Lib.hid hg
    have HON := Lib.hid hon
    clear hg hon
    by_cases hlt : k < n6
    · obtain ⟨gx, rfl, hl⟩ := hlo.resolve_left (by omega)
      have HL := Lib.hid hl
      obtain ⟨cur, hcur, hcells⟩ := hl.head
      have hkx : k < xs6.length := by rw [HXL.out]; exact hlt
      obtain ⟨x, hx⟩ : ∃ x, xs6[k]? = some x := ⟨_, List.getElem?_eq_getElem hkx⟩
      have HX6 := Lib.hid hx
      have hmem : x ∈ xs6 := List.mem_of_getElem? hx
      have HMEM := Lib.hid hmem
      obtain ⟨_, hd⟩ := hcells k x hx
      have cd := (cell_of_row _ _ (k * 2 + 1) _ _ (0, 0) hcur).trans hd
      obtain ⟨_, _, hxd, hxc, _⟩ := hl.data x hmem
      obtain ⟨D, hD⟩ : ∃ D, x.d.length = D := ⟨_, rfl⟩
      have HD := Lib.hid hD
      rw [hD] at cd hxd
      unfold maxLen at hxc
      clear hl hcur hcells hd hx hmem hD hlo
      go_wp2_with fail
      clear cd
      go_loopg [77] D (fun gk j wr => ∃ (q : Nat), q ≤ D ∧ gk = D - q ∧ j = .int .i64 q ∧ ck.Loose w5.heap.size w6.heap.size gx xs6 wr ∧ Only w5.heap.size w6.heap.size w10 wr)
      case atStart => exact ⟨0, Nat.zero_le _, rfl, rfl, HL.out, HON.out⟩
      case round =>
        obtain ⟨q, hq, hg2, rfl, hl2, hon2⟩ := hrel
        have Hg2 := Lib.hid hg2
        have HL2 := Lib.hid hl2
        have HON2 := Lib.hid hon2
        clear hg2 hon2
        obtain ⟨cur, hcur, hcells⟩ := hl2.head
        obtain ⟨hnm, hd⟩ := hcells k x HX6.out
        by_cases hlt2 : q < D
        · have cd := cell_regrown ((cell_of_row _ _ (k * 2 + 1) _ _ (0, 0) hcur).trans hd)
          rw [HD.out] at cd
          obtain ⟨hg1, hg2, _, _, cur', hcur', hby⟩ := hl2.data x HMEM.out
          obtain ⟨z, hz, hzb⟩ := hby q (by rw [HD.out]; exact hlt2)
          have cz := cell_regrown ((cell_of_row _ _ q _ _ (0, 0) hcur').trans hz)
          obtain ⟨y, hy⟩ : ∃ y, IntKind.u8.wrap (z + 1) = y := ⟨_, rfl⟩
          have hyb : 0 ≤ y ∧ y < 256 := by rw [← hy, IntKind.wrap_u8]; omega
          have HYB := Lib.hid hyb
          have HG := Lib.hid (And.intro hg1 hg2)
          have HZ := Lib.hid hz
          clear hl2 hcur hcells hd hnm hby hz hzb hyb hg1 hg2
          go_wp2_with fail
          refine wp_region_quiet_tail 16 (by kernel_rfl) (by kernel_rfl) ?_
          simp only [List.take_succ_cons, List.take_zero, List.drop_succ_cons, List.drop_zero]
          repeat (go_big_quiet_step (fail))
          refine wpQuiet_nil ?_
          intro _ hw'
          obtain ⟨⟨dq, osq⟩, hw''⟩ := hw'
          subst hw''
          have hb := below_regrown wr dq osq
          clear cd cz hy
          have HL3 := Lib.hid (HL2.out.below hb)
          have HON3 := Lib.hid (HON2.out.below hb)
          have hr3 := (hb.block _ (block_lt hcur')).trans hcur'
          clear hb hcur'
          generalize grow (redrawn wr dq) osq = w11 at *
          have c3 := (cell_of_row _ _ q _ _ (0, 0) hr3).trans HZ.out
          have f3 := frozen_of_row _ _ q _ _ hr3
          clear hr3
          go_wp2_with fail
          go_roundg (D - (q + 1))
          case measure => have := Hg2.out; omega
          case rel => exact ⟨q + 1, by omega, rfl, by go_num, HL3.out.byte HMEM.out q y HYB.out, HON3.out.set HG.out.1 HG.out.2 _⟩
        · obtain rfl : q = D := by omega
          obtain ⟨s, hs⟩ := hnm
          have cs2 := (cell_of_row _ _ (k * 2) _ _ (0, 0) hcur).trans hs
          have fs2 := frozen_of_row _ _ (k * 2) _ _ hcur
          clear hl2 hcur hcells hd hs
          go_wp2_with fail
          go_roundg (n6 - (k + 1))
          case measure => have := Hg.out; omega
          case rel => exact ⟨k + 1, by omega, rfl, by go_num, .inr ⟨gx, rfl, HL2.out.name k _⟩, HON2.out.set HL2.out.lo HL2.out.hi _⟩
    · obtain rfl : k = n6 := by omega
      have HZW : Hid (w7.heap.size ≤ wr.heap.size) := Lib.hid (Nat.le_trans K10.out.size HON.out.size)
      have P11 := Lib.hid (own_only P8c.out HON.out Z7.out)
      have F11 := Lib.hid (own_only P9b.out HON.out (Nat.le_trans Z7.out K8.out.size))
      have U11 := Lib.hid (own_only P10.out HON.out (Nat.le_trans Z7.out (Nat.le_trans K8.out.size Z9.out)))
      clear hlo
      go_wp2_with fail
      refine (spoil_any w7.heap.size a8 n8 c8 l8 _ P11.out PB8.out (by omega) HZW.out).mono ?_
      rintro e w12 ⟨⟨v, rfl⟩, hg⟩
      have X8 := Lib.hid (World.ownsRow.lt P8.out)
      have X9 := Lib.hid (World.ownsRow.lt P9.out)
      have X10 := Lib.hid (World.ownsRow.lt P10.out)
      have E11 : Below w5.heap.size w5 wr := D10.out.trans (HON.out.low D10.out.size)
      have R12 := Lib.hid ((Below.refl w7.heap.size wr).grown hg HZW.out (fun k e => (X8.out k e).1))
      have F12 := Lib.hid (World.ownsRow.kept F11.out hg (own_other F11.out (fun k e => (X8.out k e).2)))
      have U12 := Lib.hid (World.ownsRow.kept U11.out hg (own_other U11.out (fun k e => Nat.lt_of_lt_of_le (X8.out k e).2 Z9.out)))
      have E12 := Lib.hid (E11.trans (R12.out.mono D7.out.size))
      clear E11 hg
      go_wp2_with fail
      refine (spoil_any w8.heap.size a9 n9 c9 l9 _ F12.out PB9.out (by omega) (Nat.le_trans (Nat.le_trans Z9.out (Nat.le_trans Z10.out HON.out.size)) R12.out.size)).mono ?_
      rintro e w13 ⟨⟨v, rfl⟩, hg⟩
      have R13 := Lib.hid (R12.out.grown hg (Nat.le_trans HZW.out R12.out.size) (fun k e => Nat.le_trans K8.out.size (X9.out k e).1))
      have U13 := Lib.hid (World.ownsRow.kept U12.out hg (own_other U12.out (fun k e => (X9.out k e).2)))
      clear hg
      go_wp2_with fail
      refine (spoil_any w9.heap.size a10 n10 c10 l10 _ U13.out PB10.out (by omega) (Nat.le_trans (Nat.le_trans Z10.out HON.out.size) R13.out.size)).mono ?_
      rintro e w14 ⟨⟨v, rfl⟩, hg⟩
      have R14 := Lib.hid (R13.out.grown hg (Nat.le_trans HZW.out R13.out.size) (fun k e => Nat.le_trans K9.out.size (X10.out k e).1))
      have E14 : Hid (Below w5.heap.size w5 w14) := Lib.hid ((D10.out.trans (HON.out.low D10.out.size)).trans (R14.out.mono D7.out.size))
      have B14 := Lib.hid (HB5.out.trans (E14.out.mono HB5.out.size))
      clear hg
      go_wp2_with fail
      refine (refsplit_any _ _ _ _ _ (HS.out.below B14.out) (by omega)).mono ?_
      intro e w15 h15
      obtain ⟨a15, n15, c15, ls15, rfl, hrd, hls, hb⟩ := h15.rd HBL.out
      have HR15 := Lib.hid hrd
      have HL15 := Lib.hid hls
      have E15 := Lib.hid (E14.out.trans (hb.mono E14.out.size))
      have B15 := Lib.hid (B14.out.trans (hb.mono B14.out.size))
      have KY : ∀ k, w6.heap.size ≤ k → k < w7.heap.size → w15.heap[k]? = w7.heap[k]? := fun k h1 h2 =>
        (hb.block k (Nat.lt_of_lt_of_le h2 (Nat.le_trans HZW.out R14.out.size))).trans ((R14.out.block k h2).trans ((HON.out.block k (Nat.lt_of_lt_of_le h2 K10.out.size) (.inr h1)).trans (K10.out.block k h2)))
      have AY := HAT.out.keep KY (Nat.le_refl _) (Nat.le_refl _)
      obtain ⟨a16, c16, hv16, hr16⟩ := AY.rd HB7.out HT7.out
      simp only [Value.slice.injEq] at hv16
      obtain ⟨rfl, rfl, rfl⟩ := hv16
      have HR16 := Lib.hid hr16
      have HS15 := Lib.hid (HS.out.below B15.out)
      have T15 := Lib.hid (T5.out.below E15.out)
      have HF15 := Lib.hid (HR5.out.below E15.out)
      have HL0 := Lib.hid (HR.out.below B15.out)
      obtain ⟨bq, oq, hq, hc⟩ := (HS5.out.below E15.out).cells (by omega)
      simp only [Option.some.injEq, Addr.mk.injEq, and_true] at hq
      obtain ⟨rfl, rfl⟩ := hq
      have c77 := hc n (by omega)
      have e77 : (l ++ [77]).getD n 0 = 77 := by
        rw [List.getD_eq_getElem?_getD, List.getElem?_append_right (by rw [HLL.out]; exact Nat.le_refl _), HLL.out, Nat.sub_self]
        rfl
      rw [Nat.zero_add, e77] at c77
      clear h15 hrd hls hb KY AY hr16 hc
      go_wp2_with fail
      clear c77
      refine (same8_any _ _ _ _ _ _ _ _ _ T15.out HS15.out).mono ?_
      rw [decide_eq_true rfl]
      rintro e w17 ⟨rfl, hb⟩
      have HF17 := Lib.hid (HF15.out.below hb)
      have HL17 := Lib.hid (HL0.out.below hb)
      have HY17 := Lib.hid (HR16.out.below hb)
      have HW17 := Lib.hid (HR15.out.below hb)
      have B17 := Lib.hid (B15.out.trans (hb.mono B15.out.size))
      clear hb
      go_wp2_with fail
      refine (sameChunks_any _ _ _ _ _ _ _ _ _ HF17.out HL17.out).mono ?_
      rw [decide_eq_true (HC5.out.trans HCS.out.symm)]
      rintro e w18 ⟨rfl, hb⟩
      have HY18 := Lib.hid (HY17.out.below hb)
      have HW18 := Lib.hid (HW17.out.below hb)
      have B18 := Lib.hid (B17.out.trans (hb.mono B17.out.size))
      clear hb
      go_wp2_with fail
      refine (sameChunks_any _ _ _ _ _ _ _ _ _ HY18.out HW18.out).mono ?_
      rw [decide_eq_true (HM7.out.trans HL15.out.symm)]
      rintro e w19 ⟨rfl, hb⟩
      have B19 := Lib.hid (B18.out.trans (hb.mono B18.out.size))
      clear hb
      go_wp2_with fail
      go_ret
      exact ⟨rfl, B19.out⟩
end Go.Proofs.YtfaemhmefijaoaaDoor
