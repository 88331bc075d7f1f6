/- ChunkTold: the law's walk. -/
import Derived.Test.YtfaemhmefijaoaaDoorCkLaw5
namespace Go.Proofs.YtfaemhmefijaoaaDoor
open Go.RowKit Go.Sort

theorem turn_at (x : Int) (L : Nat) (h0 : 0 < L) (h1 : L ≤ 4194304) : ∃ k : Nat, wrap64 ((IntKind.u64.wrap x).tmod (L : Int)) = (k : Int) ∧ k < L := by
  have h2 : 0 ≤ IntKind.u64.wrap x := by
    rw [IntKind.wrap_u64]
    exact Int.emod_nonneg _ (by decide)
  have h3 := Int.tmod_nonneg (L : Int) h2
  have h4 := Int.tmod_lt_of_pos (IntKind.u64.wrap x) (b := (L : Int)) (by omega)
  obtain ⟨z, hz⟩ : ∃ z, (IntKind.u64.wrap x).tmod (L : Int) = z := ⟨_, rfl⟩
  rw [hz] at h3 h4 ⊢
  refine ⟨z.toNat, ?_, by omega⟩
  unfold wrap64
  omega
theorem xor_turns {z y : Int} (hz : 0 ≤ z ∧ z < 256) (hy : 0 ≤ y ∧ y < 256) (h : y ≠ 0) : bits BinOp.xor IntKind.u8 z y ≠ z ∧ 0 ≤ bits BinOp.xor IntKind.u8 z y ∧ bits BinOp.xor IntKind.u8 z y < 256 := by
  obtain ⟨a, rfl⟩ : ∃ a : Nat, z = a := ⟨z.toNat, by omega⟩
  obtain ⟨b, rfl⟩ : ∃ b : Nat, y = b := ⟨y.toNat, by omega⟩
  have e : bits BinOp.xor IntKind.u8 (a : Int) (b : Int) = ((a ^^^ b : Nat) : Int) := u8_xor_nat a b (by omega) (by omega)
  have h2 : a ^^^ b < 2 ^ 8 := Nat.xor_lt_two_pow (by omega) (by omega)
  rw [e]
  refine ⟨fun h3 => ?_, by omega, by omega⟩
  have h4 : a ^^^ b = a := by omega
  have h5 : a ^^^ (a ^^^ b) = a ^^^ a := by rw [h4]
  rw [← Nat.xor_assoc, Nat.xor_self, Nat.zero_xor] at h5
  omega
theorem wf_byte {y : Int} (h : (Lit.int .u8 y).wf = true) : 0 ≤ y ∧ y < 256 := by
  simp [Lit.wf, IntKind.min, IntKind.max, IntKind.bits, IntKind.signed] at h
  omega
theorem own_cur {w : World} {base g n c k : Nat} {l : List Int} (h : w.ownsRow base 5 1 (.slice (some ⟨g, 0, none⟩) n c) n (l.map (Value.int .u8))) (hk : k < n) :
    ∃ cur, w.heap[g]? = some (.cells cur 5 (0, 0)) ∧ cur[k]? = some (.int .u8 (l.getD k 0)) ∧ n ≤ cur.size ∧ cur.toList.take n = l.map (Value.int .u8) := by
  rcases h.2 with ⟨h', _⟩ | ⟨g', cap, cur, h', h1, h2, h3, h4, h5, h6⟩
  · cases h'
  · simp only [Value.slice.injEq, Option.some.injEq, Addr.mk.injEq, and_true, true_and] at h'
    obtain ⟨rfl, rfl⟩ := h'
    refine ⟨cur, h2, ?_, by omega, by simpa using h6⟩
    have e := congrArg (fun l : List Value => l[k]?) h6
    simp only [Nat.mul_one] at e
    rw [List.getElem?_take, if_pos hk, List.getElem?_map] at e
    have hl : k < l.length := by
      have := h.1
      simp at this
      omega
    rw [List.getElem?_eq_getElem hl] at e
    rw [← Array.getElem?_toList, e]
    simp [List.getD_eq_getElem?_getD, hl]
/-- one byte of a row is written -/
theorem sl_put {w : World} {g n c k : Nat} {l : List Int} {cur : Array Value} {y : Int} (h : Sl .u8 w (some ⟨g, 0, none⟩) n c l) (hg : w.heap[g]? = some (.cells cur 5 (0, 0))) (hk : k < n) (hcz : n ≤ cur.size) (hy : 0 ≤ y ∧ y < 256) :
    Sl .u8 (w.setCell ⟨g, k, none⟩ (.int .u8 y)) (some ⟨g, 0, none⟩) n c (l.set k y) := by
  have hwf : (Lit.int .u8 y).wf = true := wf_of_bytes (l := [y]) (fun x hx => by rw [List.mem_singleton.1 hx]; exact hy) y (by simp)
  have hl := h.len
  refine ⟨by rw [List.length_set]; exact hl, h.fits, h.most, (fun e => nomatch e), fun x hx => ?_, ?_⟩
  · rcases List.mem_or_eq_of_mem_set hx with h1 | rfl
    · exact h.wf x h1
    · exact hwf
  · rcases h.rd with h0 | ⟨b, off, e, hc⟩
    · rw [h0] at hl
      simp at hl
      omega
    · simp only [Option.some.injEq, Addr.mk.injEq, and_true] at e
      obtain ⟨rfl, rfl⟩ := e
      refine .inr ⟨g, 0, rfl, fun i hi => ?_⟩
      rw [List.length_set] at hi
      have h1 := hc i hi
      rw [setCell_eq_setRow w g k cur 5 (0, 0) _ hg, cell_of_row _ _ _ _ _ _ (setRow_heap w g cur _ _ _ hg)]
      rw [cell_of_row _ _ _ _ _ _ hg] at h1
      rw [Nat.zero_add] at h1 ⊢
      by_cases hik : i = k
      · subst hik
        simp [List.getD_eq_getElem?_getD, hi, show i < cur.size by omega]
      · rw [Array.getElem?_setIfInBounds_ne (Ne.symm hik), h1]
        simp [List.getD_eq_getElem?_getD, Ne.symm hik]
set_option maxRecDepth 100000 in
set_option maxHeartbeats 3200000 in
theorem chunkTold_walk (p : Option Addr) (m cm : Nat) (ls : List ck.Arg) (at' by' : Int) (w : World) (hr : ck.Rd w p m cm ls) (hcm : cm ≤ 1048576) (hsm : ck.Small ls) (_ : (Lit.int .i64 at').wf = true) (hby : (Lit.int .u8 by').wf = true) :
    Calls Tryd.prog 5 #[.slice p m cm, .int .i64 at', .int .u8 by'] w (Same8Post true w) := by
  have hm : m ≤ 1048576 := Nat.le_trans hr.fits hcm
  have HR := Lib.hid hr
  have HBY := Lib.hid hr.bytes
  have HX : Hid (∀ x ∈ ls, x.n ≤ 140737488355328) := Lib.hid (fun x hx => Nat.le_trans (hsm.1 x hx) (by decide))
  have HDL : Hid (∀ c ∈ ls.map (·.ck), c.2.length < 2147483648) := Lib.hid (by
    intro c hc
    obtain ⟨x, hx, rfl⟩ := List.mem_map.1 hc
    have h1 := hsm.1 x hx
    have h2 := (hr.data x hx).len
    show x.d.length < 2147483648
    omega)
  obtain ⟨cs, hcs⟩ : ∃ cs, ls.map (·.ck) = cs := ⟨_, rfl⟩
  have HJL : Hid ((ck.joined cs).length ≤ 4194304) := Lib.hid (by rw [← hcs]; exact hsm.2)
  have HCS := Lib.hid hcs
  rw [hcs] at HBY HDL
  clear hr hcm hsm hcs
  go_enter Tryd.func5, Tryd.ntmps5
  go_wp2_with fail
  refine (wakes_any _).mono ?_
  rintro e w1 ⟨rfl, hb1⟩
  have HB1 := Lib.hid hb1
  have HR1 := Lib.hid (HR.out.below hb1)
  clear hb1
  go_wp2_with fail
  refine (chunks_rd _ _ _ _ _ HR1.out hm HX.out).mono ?_
  rintro e w2 ⟨a2, c2, xs, rfl, _, hrd, hck, hb⟩
  obtain ⟨ls2, hls2⟩ : ∃ z, xs.map (·.arg) = z := ⟨_, rfl⟩
  rw [hls2, HCS.out] at hck
  rw [hls2] at hrd
  have HR2 := Lib.hid hrd
  have HC2 := Lib.hid hck
  have HRa := Lib.hid (HR1.out.below hb)
  have HB2 := Lib.hid (HB1.out.trans (hb.mono HB1.out.size))
  clear hrd hck hb hls2
  go_wp2_with fail
  refine (join_any _ _ _ _ _ HR2.out (by rw [HC2.out]; exact Nat.le_trans HJL.out (by decide))).mono ?_
  rw [HC2.out]
  intro e w3 h3
  cases hj : ck.join cs with
  | none =>
    rw [hj] at h3
    obtain ⟨rfl, hb⟩ := h3
    have HJ := Lib.hid hj
    have HRb := Lib.hid (HRa.out.below hb)
    have HB3 := Lib.hid (HB2.out.trans (hb.mono HB2.out.size))
    clear hb hj
    have q1 : ((190 : Int) == 0) = false := rfl
    go_wp2_with fail
    go_ret
    exact ⟨rfl, HB3.out⟩
  | some j =>
    rw [hj] at h3
    obtain ⟨v3, rfl, hrow, hb⟩ := h3
    have HJ := Lib.hid hj
    obtain ⟨hje, _, _⟩ := ck.okAt_all hj
    have HJE := Lib.hid hje
    have HJB : Hid (sm.Bytes j) := Lib.hid (by rw [hje]; exact ck.joinedTo_bytes HBY.out _)
    have hjl : j.length ≤ 4194304 := by rw [hje]; exact HJL.out
    have hjp : 8 ≤ j.length := by
      rw [hje]
      unfold ck.joined ck.joinedTo
      rw [List.length_append]
      exact Nat.le_add_right _ _
    obtain ⟨a3, c3, rfl, hs3, _⟩ := own_sl hrow HJB.out
    have HS3 := Lib.hid hs3
    have HRb := Lib.hid (HRa.out.below hb)
    have HB3 := Lib.hid (HB2.out.trans (hb.mono HB2.out.size))
    clear hb hj hje hrow hs3
    by_cases h0 : by' = 0
    · subst h0
      go_wp2_with fail
      go_ret
      exact ⟨rfl, HB3.out⟩
    · have h0' : (by' == 0) = false := by simpa using h0
      obtain ⟨k, hk, hkl⟩ := turn_at at' j.length (by omega) (by omega)
      have hk0 : (0 : Int) ≤ (k : Int) := by omega
      have hj0 : ((j.length : Int) == 0) = false := beq_eq_false_iff_ne.2 (by omega)
      go_wp2_with fail
      refine (own8_any _ _ _ _ _ HS3.out (by omega)).mono ?_
      rintro e w6 ⟨g6, c6, rfl, hs6, hrow, hb⟩
      have HO6 := Lib.hid hrow
      have HRe := Lib.hid (HRb.out.below hb)
      have HB6 := Lib.hid (HB3.out.trans (hb.mono HB3.out.size))
      have HZ6 := Lib.hid hb.size
      have HS6 := Lib.hid hs6
      obtain ⟨cur, hcur, hck, hcz, hct⟩ := own_cur hrow hkl
      have HCUR := Lib.hid hcur
      have ck0 := cell_of_row _ _ k _ _ (0, 0) hcur
      rw [hck] at ck0
      have fk0 := frozen_of_row _ _ k _ _ hcur
      clear hb hrow hs6 hcur hck
      obtain ⟨z, hz⟩ : ∃ z, j.getD k 0 = z := ⟨_, rfl⟩
      have HZ := Lib.hid hz
      rw [hz] at ck0
      go_wp2_with fail
      clear ck0 fk0
      obtain ⟨y, hy⟩ : ∃ y, bits BinOp.xor IntKind.u8 z by' = y := ⟨_, rfl⟩
      rw [hy]
      have hzb := byte_getD HJB.out k
      rw [hz] at hzb
      obtain ⟨t1, t2, t3⟩ := xor_turns hzb (wf_byte hby) h0
      rw [hy] at t1 t2 t3
      have hs7 := sl_put (y := y) HS6.out HCUR.out hkl hcz ⟨t2, t3⟩
      have hb7 := HB6.out.setCell (p := ⟨g6, k, none⟩) (show w.heap.size ≤ g6 from Nat.le_trans HB3.out.size (World.ownsRow.lt HO6.out g6 rfl).1) (.int .u8 y)
      generalize w6.setCell ⟨g6, k, none⟩ (.int .u8 y) = w7 at *
      have HS7 := Lib.hid hs7
      have HB7 := Lib.hid hb7
      have HBY7 : Hid (sm.Bytes (j.set k y)) := Lib.hid (fun x hx => by
        rcases List.mem_or_eq_of_mem_set hx with h1 | rfl
        · exact HJB.out x h1
        · exact ⟨t2, t3⟩)
      have hne : j.set k y ≠ j := fun e => by
        have e2 := congrArg (fun l : List Int => l.getD k 0) e
        simp only [List.getD_eq_getElem?_getD, List.getElem?_set, hkl, if_true] at e2
        rw [List.getD_eq_getElem?_getD] at hz
        exact t1 (e2.trans hz)
      have HTOLD : Hid (ck.split (j.set k y) ≠ some cs) := Lib.hid (ck.split_told HBY7.out (by rw [List.length_set, ← HJE.out]) (by rw [← HJE.out]; exact hne))
      clear hs7 hb7 hne t1 t2 t3 hy hzb hz HZ HCUR hct hcz hk
      go_wp2_with fail
      refine (split_any g6 0 j.length c6 (j.set k y) _ HS7.out (by omega)).mono ?_
      intro e w8 h8
      have HR0 := Lib.hid (HR.out.below HB7.out)
      obtain ⟨a8, n8, c8, ls8, rfl, hrd, hls, hb⟩ := h8.rd HBY7.out
      have HB8 := Lib.hid (HB7.out.trans (hb.mono HB7.out.size))
      have HR8 := Lib.hid hrd
      have HR0b := Lib.hid (HR0.out.below hb)
      clear h8 hrd hb
      cases hsp : ck.split (j.set k y) with
      | none =>
        simp only [ck.errOf]
        go_wp2_with fail
        go_ret
        exact ⟨rfl, HB8.out⟩
      | some cs' =>
        rw [hsp] at hls HTOLD
        have HL8 : Hid (ls8.map (·.ck) = cs') := Lib.hid hls
        clear hls hsp
        simp only [ck.errOf]
        go_wp2_with fail
        refine (sameChunks_any _ _ _ _ _ _ _ _ _ HR8.out HR0b.out).mono ?_
        rw [decide_eq_false (by rw [HL8.out, HCS.out]; exact fun e => HTOLD.out (by rw [e]))]
        rintro e w9 ⟨rfl, hb⟩
        have HB9 := Lib.hid (HB8.out.trans (hb.mono HB8.out.size))
        clear hb
        go_wp2_with fail
        go_ret
        exact ⟨rfl, HB9.out⟩
end Go.Proofs.YtfaemhmefijaoaaDoor
