/- chunks: a copy of a list of chunks. -/
import Derived.Test.YtfaemhmefijaoaaDoorCkSame
namespace Go.Proofs.YtfaemhmefijaoaaDoor
open Go.RowKit Go.Sort

/-- a made chunk, as an argument -/
def ck.El.arg (x : ck.El) : ck.Arg := ⟨strOfNums x.t, some ⟨x.g, 0, none⟩, x.d.length, x.cap, x.d⟩
theorem ck.cells_get : ∀ (xs : List ck.El) (i : Nat) (x : ck.El), xs[i]? = some x → (ck.cells xs)[i * 2]? = some (.string (strOfNums x.t)) ∧ (ck.cells xs)[i * 2 + 1]? = some (.slice (some ⟨x.g, 0, none⟩) x.d.length x.cap)
  | [], i, x, h => by cases h
  | y :: xs, 0, x, h => by
    obtain rfl : y = x := by simpa using h
    exact ⟨rfl, rfl⟩
  | y :: xs, i + 1, x, h => by
    have := ck.cells_get xs i x (by simpa using h)
    have e : ck.cells (y :: xs) = [.string (strOfNums y.t), .slice (some ⟨y.g, 0, none⟩) y.d.length y.cap] ++ ck.cells xs := rfl
    rw [e, show (i + 1) * 2 = i * 2 + 2 by omega]
    exact ⟨by simpa using this.1, by simpa [show i * 2 + 2 + 1 = i * 2 + 1 + 2 by omega] using this.2⟩
theorem own_slice' {w : World} {base : Nat} {e : TypeId} {size : Nat} {v : Value} {n : Nat} {xs : List Value} (h : w.ownsRow base e size v n xs) : ∃ a c, v = .slice a n c ∧ n ≤ c ∧ c ≤ maxLen ∧ ((n = 0 ∧ c = 0) ∨ ∃ g, a = some ⟨g, 0, none⟩ ∧ ∀ i x, xs[i]? = some x → w.cell? ⟨g, i, none⟩ = some x) := by
  rcases h.2 with ⟨rfl, rfl⟩ | ⟨g, cap, cur, rfl, h1, h2, h3, h4, h5, h6⟩
  · exact ⟨none, 0, rfl, Nat.le_refl _, Nat.zero_le _, .inl ⟨rfl, rfl⟩⟩
  · refine ⟨_, cap, rfl, h3, h4, .inr ⟨g, rfl, fun i x hx => ?_⟩⟩
    have hi : i < n * size := by
      rw [← h.1]
      exact (List.getElem?_eq_some_iff.1 hx).1
    rw [cell_of_row _ _ _ _ _ _ h2]
    rw [← h6, List.getElem?_take, if_pos hi] at hx
    simpa using hx
/-- a list that was made, to be read -/
theorem ck.At.rd {base : Nat} {w : World} {v : Value} {xs : List ck.El} (h : ck.At base w v xs) (hb : ∀ x ∈ xs, sm.Bytes x.d) (ht : ∀ x ∈ xs, (strOfNums x.t).size ≤ maxLen) : ∃ a c, v = .slice a xs.length c ∧ ck.Rd w a xs.length c (xs.map (·.arg)) := by
  have hdata : ∀ x ∈ xs.map (·.arg), Sl .u8 w x.p x.n x.cap x.d := by
    intro y hy
    obtain ⟨x, hx, rfl⟩ := List.mem_map.1 hy
    exact Fresh.sl (h.ok x hx) (wf_of_bytes (hb x hx))
  have hnames : ∀ x ∈ xs.map (·.arg), x.s.size ≤ maxLen := by
    intro y hy
    obtain ⟨x, hx, rfl⟩ := List.mem_map.1 hy
    exact ht x hx
  obtain ⟨a, c, rfl, h1, h2, h3⟩ := own_slice' h.row
  refine ⟨a, c, rfl, List.length_map _, h1, h2, ?_, ?_, hdata, hnames⟩
  · intro ha
    rcases h3 with ⟨_, h3⟩ | ⟨g, rfl, _⟩
    · exact h3
    · cases ha
  · rcases h3 with ⟨h3, _⟩ | ⟨g, rfl, hc⟩
    · exact .inl (by rw [List.eq_nil_of_length_eq_zero h3]; rfl)
    · refine .inr ⟨g, 0, rfl, fun i y hy => ?_⟩
      rw [List.getElem?_map, Option.map_eq_some_iff] at hy
      obtain ⟨x, hx, rfl⟩ := hy
      obtain ⟨q1, q2⟩ := ck.cells_get xs i x hx
      rw [Nat.zero_add]
      exact ⟨hc _ _ q1, hc _ _ q2⟩
theorem news_heap {w : World} {g : Nat} {cs : List Value} {t : TypeId} (h : w.heap[g]? = some (.cells cs.toArray t (0, 0))) : ∀ j u, cs[j]? = some u → w.cell? ((⟨g, 0, none⟩ : Addr).add j) = some u := by
  intro j u hu
  have e : (⟨g, 0, none⟩ : Addr).add j = ⟨g, j, none⟩ := by unfold Addr.add; split <;> simp_all
  rw [e, cell_of_row _ _ _ _ _ _ h]
  simpa using hu
def ChunksPost (ls : List ck.Arg) (w : World) (e : Ending) (w' : World) : Prop :=
  ∃ v xs, e = .returned v ∧ ck.At w.heap.size w' v xs ∧ xs.map (·.arg.s) = ls.map (·.s) ∧ xs.map (·.d) = ls.map (·.d) ∧ Below w.heap.size w w'

set_option maxRecDepth 100000 in
set_option maxHeartbeats 3200000 in
theorem chunks_any (p : Option Addr) (n cap : Nat) (ls : List ck.Arg) (w : World) (h : ck.Rd w p n cap ls) (hn : n ≤ 1048576) (hx : ∀ x ∈ ls, x.n ≤ 140737488355328) :
    Calls Tryd.prog 16 #[.slice p n cap] w (ChunksPost ls w) := by
  have HS := Lib.hid h
  have HXS := Lib.hid hx
  have hfit := h.fits
  clear h hx
  go_enter Tryd.func16, Tryd.ntmps16
  go_wp2_with fail
  go_loopg [3, 7] n (fun gk vo i wr => ∃ (k : Nat) (xs : List ck.El), k ≤ n ∧ gk = n - k ∧ i = .int .i64 k ∧ xs.length = k ∧ ck.At w.heap.size wr vo xs ∧ xs.map (·.arg.s) = (ls.take k).map (·.s) ∧ xs.map (·.d) = (ls.take k).map (·.d) ∧ Below w.heap.size w wr)
  case atStart => exact ⟨0, [], Nat.zero_le _, rfl, rfl, rfl, ⟨World.ownsRow_nil _ _ _ _, (fun _ h => nomatch h)⟩, rfl, rfl, Below.refl _ _⟩
  case round =>
    obtain ⟨vq, hvq⟩ : ∃ x, x = u3 := ⟨_, rfl⟩
    subst hvq
    obtain ⟨k, xs, hk, hgk, rfl, hxl, hat, hxt, hxd, hb⟩ := hrel
    have Hg := Lib.hid hgk
    have HXL := Lib.hid hxl
    have HAT := Lib.hid hat
    have HXT := Lib.hid hxt
    have HXD := Lib.hid hxd
    have HB := Lib.hid hb
    clear hgk hxl hat hxt hxd hb
    by_cases hlt : k < n
    · obtain ⟨b, off, x, rfl, hx, cx, cy, hd⟩ := (HS.out.below HB.out).at hlt
      have HX := Lib.hid hx
      have HD := Lib.hid hd
      have HXN := Lib.hid (HXS.out x (List.mem_of_getElem? hx))
      clear hx hd
      go_wp2_with fail
      refine wp_region_laid_tails 14 (by decide) (by kernel_rfl) (D := fun i => ([10, 11, 12, 13, 14, 15, 16, 17, 18, 19, 20, 21, 22, 23] : List Nat).getD i 0)
        (R := fun i v w' => match i with
          | 0 => vq = v
          | 1 => v = .slice (some ⟨b, off, none⟩) n cap
          | 2 => v = .int .i64 k
          | 3 => v = .pointer (some ⟨b, off + k * 2, none⟩)
          | 4 => v = .pointer (some ⟨b, off + k * 2, none⟩)
          | 5 => v = .string x.s
          | 6 => v = .slice (some ⟨b, off, none⟩) n cap
          | 7 => v = .int .i64 k
          | 8 => v = .pointer (some ⟨b, off + k * 2, none⟩)
          | 9 => v = .pointer (some ⟨b, off + k * 2 + 1, none⟩)
          | 10 => v = .slice x.p x.n x.cap
          | 11 => ∃ g c, v = .slice (some ⟨g, 0, none⟩) x.n c ∧ w'.ownsRow w.heap.size 5 1 (.slice (some ⟨g, 0, none⟩) x.n c) x.n (x.d.map (Value.int .u8))
          | 12 => ∃ g c, v = .agg #[.string x.s, .slice (some ⟨g, 0, none⟩) x.n c] ∧ w'.ownsRow w.heap.size 5 1 (.slice (some ⟨g, 0, none⟩) x.n c) x.n (x.d.map (Value.int .u8))
          | 13 => ∃ ga g c, v = .slice (some ⟨ga, 0, none⟩) 1 1 ∧ w'.heap[ga]? = some (.cells #[.string x.s, .slice (some ⟨g, 0, none⟩) x.n c] 57 (0, 0)) ∧ w'.ownsRow w.heap.size 5 1 (.slice (some ⟨g, 0, none⟩) x.n c) x.n (x.d.map (Value.int .u8))
          | _ => True)
        (S := fun a' w' => (a'.tmps[0]? = some (.slice (some ⟨b, off, none⟩) n cap) ∧ a'.tmps[3]? = some (vq) ∧ a'.tmps[4]? = some (.int .i64 k)) ∧ Below wr.heap.size wr w')
        (by kernel_rfl) (by decide +kernel) (by decide +kernel) (by decide +kernel) (by decide +kernel) (by kernel_rfl) ?_ ?_ ?_ ?_
      · intro i v u u' h hb
        match i, h with
        | 0, h => exact h
        | 1, h => exact h
        | 2, h => exact h
        | 3, h => exact h
        | 4, h => exact h
        | 5, h => exact h
        | 6, h => exact h
        | 7, h => exact h
        | 8, h => exact h
        | 9, h => exact h
        | 10, h => exact h
        | 11, h => (obtain ⟨g, c, h1, h2⟩ := h; exact ⟨g, c, h1, ownsRow_below h2 hb⟩)
        | 12, h => (obtain ⟨g, c, h1, h2⟩ := h; exact ⟨g, c, h1, ownsRow_below h2 hb⟩)
        | 13, h => (obtain ⟨ga, g, c, h1, h2, h3⟩ := h; exact ⟨ga, g, c, h1, (hb.block _ (block_lt h2)).trans h2, ownsRow_below h3 hb⟩)
        | i + 14, _ => trivial
      · intro a' u hb _ hold
        exact ⟨⟨hold 0 (by decide), hold 3 (by decide), hold 4 (by decide)⟩, hb⟩
      · refine ⟨?_, ?_, ?_, ?_, ?_, ?_, ?_, ?_, ?_, ?_, ?_, ?_, ?_, ?_, trivial⟩
        · intro a' u hS hd
          clear hd
          have g0 := hS.1.2.1
          go_simp
          exact ⟨_, rfl, rfl, Below.refl _ _⟩
        · intro a' u hS hd
          clear hd
          have g0 := hS.1.1
          go_simp
          exact ⟨_, rfl, rfl, Below.refl _ _⟩
        · intro a' u hS hd
          clear hd
          have g0 := hS.1.2.2
          go_simp
          exact ⟨_, rfl, rfl, Below.refl _ _⟩
        · intro a' u hS hd
          obtain ⟨_, e0, rfl⟩ := hd 1 (by kernel_rfl)
          have f0 : a'.tmps[11]? = some _ := e0
          clear e0
          obtain ⟨_, e1, rfl⟩ := hd 2 (by kernel_rfl)
          have f1 : a'.tmps[12]? = some _ := e1
          clear e1
          clear hd
          go_simp
          exact ⟨_, rfl, rfl, Below.refl _ _⟩
        · intro a' u hS hd
          obtain ⟨_, e0, rfl⟩ := hd 3 (by kernel_rfl)
          have f0 : a'.tmps[13]? = some _ := e0
          clear e0
          clear hd
          go_simp
          exact ⟨_, rfl, rfl, Below.refl _ _⟩
        · intro a' u hS hd
          obtain ⟨_, e0, rfl⟩ := hd 4 (by kernel_rfl)
          have f0 : a'.tmps[14]? = some _ := e0
          clear e0
          clear hd
          have x0 := keep_cell hS.2 cx
          go_simp
          exact ⟨_, rfl, rfl, Below.refl _ _⟩
        · intro a' u hS hd
          clear hd
          have g0 := hS.1.1
          go_simp
          exact ⟨_, rfl, rfl, Below.refl _ _⟩
        · intro a' u hS hd
          clear hd
          have g0 := hS.1.2.2
          go_simp
          exact ⟨_, rfl, rfl, Below.refl _ _⟩
        · intro a' u hS hd
          obtain ⟨_, e0, rfl⟩ := hd 6 (by kernel_rfl)
          have f0 : a'.tmps[16]? = some _ := e0
          clear e0
          obtain ⟨_, e1, rfl⟩ := hd 7 (by kernel_rfl)
          have f1 : a'.tmps[17]? = some _ := e1
          clear e1
          clear hd
          go_simp
          exact ⟨_, rfl, rfl, Below.refl _ _⟩
        · intro a' u hS hd
          obtain ⟨_, e0, rfl⟩ := hd 8 (by kernel_rfl)
          have f0 : a'.tmps[18]? = some _ := e0
          clear e0
          clear hd
          go_simp
          exact ⟨_, rfl, rfl, Below.refl _ _⟩
        · intro a' u hS hd
          obtain ⟨_, e0, rfl⟩ := hd 9 (by kernel_rfl)
          have f0 : a'.tmps[19]? = some _ := e0
          clear e0
          clear hd
          have x0 := keep_cell hS.2 cy
          go_simp
          exact ⟨_, rfl, rfl, Below.refl _ _⟩
        · intro a' u hS hd
          obtain ⟨_, e0, rfl⟩ := hd 10 (by kernel_rfl)
          have f0 : a'.tmps[20]? = some _ := e0
          clear e0
          clear hd
          go_simp
          refine (own8_any _ _ _ _ _ (HD.out.below hS.2) HXN.out).mono ?_
          rintro e u' ⟨g, c, rfl, _, ho, hb⟩
          exact ⟨_, rfl, ⟨g, c, rfl, World.ownsRow.mono ho (Nat.le_trans HB.out.size hS.2.size)⟩, hb⟩
        · intro a' u hS hd
          obtain ⟨_, e0, rfl⟩ := hd 5 (by kernel_rfl)
          have f0 : a'.tmps[15]? = some _ := e0
          clear e0
          obtain ⟨_, e1, g1, c1, rfl, o1⟩ := hd 11 (by kernel_rfl)
          have f1 : a'.tmps[21]? = some _ := e1
          clear e1
          clear hd
          refine wp_built _ _ rfl [(0, .string x.s), (1, .slice (some ⟨g1, 0, none⟩) x.n c1)] #[.string x.s, .slice (some ⟨g1, 0, none⟩) x.n c1] (by simp [Act.eval, f0, f1]) rfl ⟨_, rfl, ⟨g1, c1, rfl, o1⟩, Below.refl _ _⟩
        · intro a' u hS hd
          obtain ⟨_, e0, g2, c2, rfl, o2⟩ := hd 12 (by kernel_rfl)
          have f0 : a'.tmps[22]? = some _ := e0
          clear e0
          clear hd
          go_simp
          exact ⟨_, rfl, ⟨_, rfl, g2, c2, heap_alloc_last _ _, o2.alloc _⟩, (Below.refl _ _).alloc (Nat.le_refl _) _⟩
      · intro a' u h
        obtain ⟨_, e0, rfl⟩ := h.new 0 (by decide) (by decide +kernel)
        obtain ⟨_, e1, rfl⟩ := h.new 1 (by decide) (by decide +kernel)
        obtain ⟨_, e2, rfl⟩ := h.new 2 (by decide) (by decide +kernel)
        obtain ⟨_, e3, rfl⟩ := h.new 3 (by decide) (by decide +kernel)
        obtain ⟨_, e4, rfl⟩ := h.new 4 (by decide) (by decide +kernel)
        obtain ⟨_, e5, rfl⟩ := h.new 5 (by decide) (by decide +kernel)
        obtain ⟨_, e6, rfl⟩ := h.new 6 (by decide) (by decide +kernel)
        obtain ⟨_, e7, rfl⟩ := h.new 7 (by decide) (by decide +kernel)
        obtain ⟨_, e8, rfl⟩ := h.new 8 (by decide) (by decide +kernel)
        obtain ⟨_, e9, rfl⟩ := h.new 9 (by decide) (by decide +kernel)
        obtain ⟨_, e10, rfl⟩ := h.new 10 (by decide) (by decide +kernel)
        obtain ⟨_, e11, g1, c1, rfl, o1⟩ := h.new 11 (by decide) (by decide +kernel)
        obtain ⟨_, e12, g2, c2, rfl, o2⟩ := h.new 12 (by decide) (by decide +kernel)
        obtain ⟨_, e13, ga, g3, c3, rfl, h3, o3⟩ := h.new 13 (by decide) (by decide +kernel)
        have ht := set_all (Ds := [10, 11, 12, 13, 14, 15, 16, 17, 18, 19, 20, 21, 22, 23]) [(10, vq), (11, .slice (some ⟨b, off, none⟩) n cap), (12, .int .i64 k), (13, .pointer (some ⟨b, off + k * 2, none⟩)), (14, .pointer (some ⟨b, off + k * 2, none⟩)), (15, .string x.s), (16, .slice (some ⟨b, off, none⟩) n cap), (17, .int .i64 k), (18, .pointer (some ⟨b, off + k * 2, none⟩)), (19, .pointer (some ⟨b, off + k * 2 + 1, none⟩)), (20, .slice x.p x.n x.cap), (21, .slice (some ⟨g1, 0, none⟩) x.n c1), (22, .agg #[.string x.s, .slice (some ⟨g2, 0, none⟩) x.n c2]), (23, .slice (some ⟨ga, 0, none⟩) 1 1)] rfl (by simp only [List.forall_mem_cons]; exact ⟨e0, e1, e2, e3, e4, e5, e6, e7, e8, e9, e10, e11, e12, e13, fun _ h => nomatch h⟩) h.old h.size
        have hdf := h.defers
        have HBu := Lib.hid h.below
        clear h e0 e1 e2 e3 e4 e5 e6 e7 e8 e9 e10 e11 e12 e13
        obtain ⟨tmps, defers⟩ := a'
        dsimp only at ht hdf
        subst hdf
        rw [ht]
        clear ht
        simp only [List.foldl_cons, List.foldl_nil, List.setIfInBounds_toArray, List.set_cons_zero, List.set_cons_succ]
        have hrx : strOfNums (ck.bytesOf x.s) = x.s := ck.strOf_bytesOf x.s
        have HDL := Lib.hid (show x.d.length = x.n from HD.out.len)
        rw [← hrx, ← HDL.out] at h3
        rw [← HDL.out] at o3
        have NW := Lib.hid (news_heap (cs := [.string (strOfNums (ck.bytesOf x.s)), .slice (some ⟨g3, 0, none⟩) x.d.length c3]) h3)
        have O3 := Lib.hid o3
        have HRX := Lib.hid hrx
        have HRU := Lib.hid (ownsRow_below HAT.out.row HBu.out)
        have HBn := Lib.hid (HB.out.trans (HBu.out.mono HB.out.size))
        obtain ⟨i0, hi, hz0, hz1, hz2⟩ := info_parts infoCk
        have hxl := HXL.out
        clear h3 o3 hrx o1 o2 cx cy
        simp only [List.drop_succ_cons, List.drop_zero]
        go_wp2_with (at_builtin; go_must (refine wpList_append_own _ rfl _ _ 24 rfl w.heap.size 57 i0 (.agg #[.string ⟨#[]⟩, .slice none 0 0]) 2 40 Tryd.underlying24 hi hz0 hz1 hz2 rfl (by decide) vq xs.length _ rfl HRU.out ⟨ga, 0, none⟩ 1 1 [.string (strOfNums (ck.bytesOf x.s)), .slice (some ⟨g3, 0, none⟩) x.d.length c3] rfl rfl NW.out (by simp [Value.oneCell']) (by unfold maxLen; omega) (by omega) HBn.out.size ?_; intro v' w3 hown hg hnil; have Hown := Lib.hid hown; have HGw := Lib.hid hg; clear hown hg hnil))
        have hat2 : ck.At w.heap.size w3 v' (xs ++ [⟨ck.bytesOf x.s, x.d, g3, c3⟩]) := ⟨by
          rw [ck.cells_snoc, List.length_append]
          exact Hown.out, fun y hy => by
          rcases List.mem_append.1 hy with h | h
          · have h1 := (HAT.out.ok y h).below HBu.out
            exact World.ownsRow.kept h1 HGw.out (rows_apart h1 HRU.out (by decide))
          · rw [List.mem_singleton.1 h]
            exact World.ownsRow.kept O3.out HGw.out (rows_apart O3.out HRU.out (by decide))⟩
        have hb3 := HBn.out.grown HGw.out HBn.out.size (fun j e => (World.ownsRow.lt HRU.out j e).1)
        have htk : ls.take (k + 1) = ls.take k ++ [x] := by rw [List.take_add_one, HX.out]; rfl
        go_roundg (n - (k + 1))
        case measure => have := Hg.out; omega
        case rel => exact ⟨k + 1, _, by omega, rfl, by go_num, by rw [List.length_append, HXL.out]; rfl, hat2, by rw [List.map_append, htk, List.map_append, HXT.out]; show _ ++ [strOfNums (ck.bytesOf x.s)] = _ ++ [x.s]; rw [HRX.out], by rw [List.map_append, htk, List.map_append, HXD.out]; rfl, hb3⟩
    · obtain rfl : k = n := by omega
      go_wp2_with fail
      go_ret
      have hl : ls.length ≤ k := by rw [HS.out.len]; exact Nat.le_refl _
      have h1 := HXT.out
      have h2 := HXD.out
      rw [List.take_of_length_le hl] at h1 h2
      exact ⟨vq, xs, rfl, HAT.out, h1, h2, HB.out⟩
end Go.Proofs.YtfaemhmefijaoaaDoor
