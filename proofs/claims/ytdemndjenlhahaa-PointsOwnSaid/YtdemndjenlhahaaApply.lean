/- The walk of Apply. -/
import Derived.Test.YtdemndjenlhahaaApply0
namespace Go.Proofs.Ytdemndjenlhahaa
open Go.RowKit Go.Sort Go.Shelf
attribute [local go_sem] Oper.semAt_some

theorem heap3' (w : World) (A B C : Obj) : ((((w.alloc A).alloc B).alloc C).heap[w.heap.size]? = some A ∧ (((w.alloc A).alloc B).alloc C).heap[w.heap.size + 1]? = some B ∧ (((w.alloc A).alloc B).alloc C).heap[w.heap.size + 1 + 1]? = some C) ∧ (((w.alloc A).alloc B).alloc C).heap.size = w.heap.size + 1 + 1 + 1 := ⟨heap3 w A B C, by simp⟩

set_option maxRecDepth 100000 in
set_option maxHeartbeats 3200000 in
theorem apply_any (op : ByteArray) (p : Option Addr) (n cap : Nat) (a : List Int) (W H : Int) (q : Option Addr) (m mcap : Nat) (l : List Int) (w : World) (hA : Sl .i64 w p n cap a) (hM : Sl .u16 w q m mcap l) (hl : u16s l) :
    Calls Try.prog 15 #[.string op, .slice p n cap, .agg #[.int .i64 W, .int .i64 H, .slice q m mcap]] w
      (ApplyPost op a W H m l w) := by
  have HA := Lib.hid hA
  have HM := Lib.hid hM
  have HL := Lib.hid hl
  have hm : m ≤ maxLen := Nat.le_trans hM.fits hM.most
  unfold maxLen at hm
  clear hA hM hl
  refine (callsIn_wide (n := 6)).1 (callsIn_of_wp_marks Try.func15 rfl trivial ?_ rfl)
  simp only [Try.ntmps15, List.size_toArray, List.length_cons, List.length_nil, Nat.reduceAdd, Nat.reduceSub, Array.replicate_succ, Array.replicate_zero, List.push_toArray, List.append_toArray, List.nil_append, List.cons_append]
  refine wpIn_wide.2 ?_
  have B0 := ((((Below.refl w.heap.size w).alloc (Nat.le_refl _) (.cells #[.slice p n cap] 22)).alloc (by simp) (.cells #[.int .i64 W, .int .i64 H, .slice q m mcap] 41)).alloc (by simp; omega) (.cells #[.int .i64 0, .int .i64 0, .slice none 0 0] 41))
  obtain ⟨⟨q0, q1, q2⟩, q3⟩ := heap3' w (.cells #[.slice p n cap] 22) (.cells #[.int .i64 W, .int .i64 H, .slice q m mcap] 41) (.cells #[.int .i64 0, .int .i64 0, .slice none 0 0] 41)
  go_wp2_with fail
  generalize ((w.alloc (.cells #[.slice p n cap] 22)).alloc (.cells #[.int .i64 W, .int .i64 H, .slice q m mcap] 41)).alloc (.cells #[.int .i64 0, .int .i64 0, .slice none 0 0] 41) = w0 at *
  have HB0 := Lib.hid B0
  have Q0 := Lib.hid q0
  have Q1 := Lib.hid q1
  have Q2 := Lib.hid q2
  have SZ := Lib.hid q3
  clear B0 q0 q1 q2 q3
  refine (find_any op p n cap a _ (HA.out.below HB0.out)).mono ?_
  rintro e w1 hp
  obtain ⟨s, A, mm, d, rfl, h1, hb, hk⟩ := hp.code
  have HK := Lib.hid hk
  have HD := Lib.hid h1
  have Q01 := Lib.hid ((hb.block _ (block_lt Q0.out)).trans Q0.out)
  have Q11 := Lib.hid ((hb.block _ (block_lt Q1.out)).trans Q1.out)
  have Q21 := Lib.hid ((hb.block _ (block_lt Q2.out)).trans Q2.out)
  have HB1 := Lib.hid (HB0.out.trans (hb.mono HB0.out.size))
  have SZ1 : w.heap.size + 1 + 1 + 1 ≤ w1.heap.size := by have := hb.size; rw [SZ.out] at this; exact this
  clear hp hb hk h1 Q0 Q1 Q2 SZ HB0
  have HE : Hid (pm.applyErr op a W H m = if pm.errOf op a = 0 then (if goodB W H m = true then 0 else 6) else pm.errOf op a) := Lib.hid rfl
  generalize pm.errOf op a = E at *
  have R0 := Lib.hid ((Below.heap_alloc w1 (.cells #[.string s, .slice A mm mm, d] 57) _ (block_lt Q01.out)).trans Q01.out)
  have R1 := Lib.hid ((Below.heap_alloc w1 (.cells #[.string s, .slice A mm mm, d] 57) _ (block_lt Q11.out)).trans Q11.out)
  have R2 := Lib.hid ((Below.heap_alloc w1 (.cells #[.string s, .slice A mm mm, d] 57) _ (block_lt Q21.out)).trans Q21.out)
  have HB2 := Lib.hid (HB1.out.alloc HB1.out.size (.cells #[.string s, .slice A mm mm, d] 57))
  by_cases hE : E = 0
  · subst hE
    obtain ⟨k, hk, hi, hok, hd⟩ := HK.out rfl
    have HI := Lib.hid hi
    have HOK := Lib.hid hok
    have hd1 := Lib.hid hd
    clear hi hok hd HK
    go_wp2_with (first
      | (with_reducible refine wpList_store_row rfl 57 _ _ rfl w1.heap.size _ rfl rfl 57 _ (heap_alloc_last _ _) (opSize _ _ _) (opSz _ _ _ _ _ _) (opOneD HD.out) ?_; rw [World.setRow_alloc_new])
      | (with_reducible refine wpList_load_row rfl 41 _ rfl (w.heap.size + 1) rfl 41 _ (0, 0) _ R1.out Try.underlying41 rfl (imgSize3 _ _ _) ?_))
    refine (good_any W H q m mcap _).mono ?_
    rintro e w3 ⟨rfl, hb3⟩
    have RO := Lib.hid ((hb3.block _ (block_lt (heap_alloc_last w1 (.cells #[.string s, .slice A mm mm, d] 57)))).trans (heap_alloc_last w1 (.cells #[.string s, .slice A mm mm, d] 57)))
    have S0 := Lib.hid ((hb3.block _ (block_lt R0.out)).trans R0.out)
    have S1 := Lib.hid ((hb3.block _ (block_lt R1.out)).trans R1.out)
    have S2 := Lib.hid ((hb3.block _ (block_lt R2.out)).trans R2.out)
    have D3 := Lib.hid (hd1.out.below (((Below.refl w1.heap.size w1).alloc (Nat.le_refl _) (.cells #[.string s, .slice A mm mm, d] 57)).trans (hb3.mono (by simp))))
    have HB3 := Lib.hid (HB2.out.trans (hb3.mono HB2.out.size))
    have SZ3 : w1.heap.size + 1 ≤ w3.heap.size := by have := hb3.size; simpa using this
    clear hb3 R0 R1 R2 HB2 hd1
    by_cases hg : goodB W H m = true
    · rw [hg]
      have HV : Hid (pm.applyErr op a W H m = 0) := Lib.hid (by rw [HE.out, if_pos trivial, if_pos hg])
      obtain ⟨g1, g2, g3, g4, g5, g6⟩ := of_decide_eq_true hg
      obtain ⟨wn, hwn⟩ : ∃ x : Nat, W = x := ⟨W.toNat, by omega⟩
      have hwn1 : 1 ≤ wn := by omega
      have hwn2 : wn ≤ 4096 := by omega
      have HWN := Lib.hid hwn
      clear hwn
      obtain ⟨m1, m2, m3⟩ := sides_mul g1 g2 g3 g4
      have hm26 : m ≤ 262144 := by omega
      have hm1 : 4 ≤ m := by omega
      have HG := Lib.hid hg
      have G66 := Lib.hid (show (m : Int) = 4 * (W * H) by omega)
      clear hg m3 g6
      go_wp2_with fail
      -- region 6
      refine wp_region_laid_tail (D := fun i => ([28, 29, 30, 31, 32, 33, 34, 35, 36, 10] : List Nat).getD i 0)
        (R := fun i v w' => match i with
          | 0 => v = .pointer (some ⟨w.heap.size + 1, 0, none⟩)
          | 1 => v = .int .i64 W
          | 2 => v = .pointer (some ⟨w.heap.size + 1, 1, none⟩)
          | 3 => v = .int .i64 H
          | 4 => v = .pointer (some ⟨w.heap.size + 1, 2, none⟩)
          | 5 => v = .slice q m mcap
          | 6 => v = .int .i64 m
          | 7 => MadeRow w3.heap.size m v w'
          | 8 => MadeImg w3.heap.size W H m v w'
          | 9 => NewImg w3.heap.size v w'
          | _ => True)
        (S := fun a' w' => a'.tmps[5]? = some (.pointer (some ⟨w.heap.size + 1, 0, none⟩)) ∧ Below w3.heap.size w3 w')
        10 (by rfl) (by kernel_rfl) (by kernel_rfl) (by kernel_rfl) (by kernel_rfl) ?_ ?_ ?_ ?_
      · intro i v u u' h hb
        match i, h with
        | 0, h => exact h
        | 1, h => exact h
        | 2, h => exact h
        | 3, h => exact h
        | 4, h => exact h
        | 5, h => exact h
        | 6, h => exact h
        | 7, h => exact MadeRow.below h hb
        | 8, h => exact MadeImg.below h hb
        | 9, h => exact NewImg.below h hb
        | i + 10, _ => trivial
      · intro a' u hb _ hold
        exact ⟨hold 5 (by decide), hb⟩
      · refine ⟨?_, ?_, ?_, ?_, ?_, ?_, ?_, ?_, ?_, ?_, trivial⟩
        · intro a' u hS hd
          clear hd
          have e := hS.1
          go_simp
          exact ⟨_, rfl, rfl, Below.refl _ _⟩
        · intro a' u hS hd
          obtain ⟨_, e0, rfl⟩ := hd 0 (by kernel_rfl)
          have e : a'.tmps[28]? = some _ := e0
          clear hd e0
          have x0 := (cell_of_row _ _ 0 _ _ (0, 0) ((hS.2.block _ (block_lt S1.out)).trans S1.out)).trans rfl
          go_simp
          exact ⟨_, rfl, rfl, Below.refl _ _⟩
        · intro a' u hS hd
          clear hd
          have e := hS.1
          go_simp
          exact ⟨_, rfl, rfl, Below.refl _ _⟩
        · intro a' u hS hd
          obtain ⟨_, e0, rfl⟩ := hd 2 (by kernel_rfl)
          have e : a'.tmps[30]? = some _ := e0
          clear hd e0
          have x0 := (cell_of_row _ _ 1 _ _ (0, 0) ((hS.2.block _ (block_lt S1.out)).trans S1.out)).trans rfl
          go_simp
          exact ⟨_, rfl, rfl, Below.refl _ _⟩
        · intro a' u hS hd
          clear hd
          have e := hS.1
          go_simp
          exact ⟨_, rfl, rfl, Below.refl _ _⟩
        · intro a' u hS hd
          obtain ⟨_, e0, rfl⟩ := hd 4 (by kernel_rfl)
          have e : a'.tmps[32]? = some _ := e0
          clear hd e0
          have x0 := (cell_of_row _ _ 2 _ _ (0, 0) ((hS.2.block _ (block_lt S1.out)).trans S1.out)).trans rfl
          go_simp
          exact ⟨_, rfl, rfl, Below.refl _ _⟩
        · intro a' u hS hd
          obtain ⟨_, e0, rfl⟩ := hd 5 (by kernel_rfl)
          have e : a'.tmps[33]? = some _ := e0
          clear hd e0
          go_simp
          exact ⟨_, rfl, rfl, Below.refl _ _⟩
        · intro a' u hS hd
          obtain ⟨_, e0, rfl⟩ := hd 6 (by kernel_rfl)
          have e : a'.tmps[34]? = some _ := e0
          have hsz := hS.2.size
          clear hd e0
          have hmk := make_u16 m (by omega)
          go_simp
          exact ⟨_, rfl, ⟨_, rfl, hsz, World.ownsRow_made u _ m hsz (by unfold maxLen; omega) (by simp [madeCells])⟩, (Below.refl _ _).alloc (Nat.le_refl _) _⟩
        · intro a' u hS hd
          obtain ⟨_, e0, rfl⟩ := hd 1 (by kernel_rfl)
          obtain ⟨_, e1, rfl⟩ := hd 3 (by kernel_rfl)
          obtain ⟨_, e2, g, rfl, hg1, hg2⟩ := hd 7 (by kernel_rfl)
          have f0 : a'.tmps[29]? = some _ := e0
          have f1 : a'.tmps[31]? = some _ := e1
          have f2 : a'.tmps[35]? = some _ := e2
          have HG := Lib.hid hg2
          clear hd e0 e1 e2 hg2
          refine wp_built _ _ rfl [(0, .int .i64 W), (1, .int .i64 H), (2, .slice (some ⟨g, 0, none⟩) 0 m)] #[.int .i64 W, .int .i64 H, .slice (some ⟨g, 0, none⟩) 0 m] (by simp [Act.eval, f0, f1, f2]) rfl ⟨_, rfl, ⟨g, rfl, hg1, HG.out⟩, Below.refl _ _⟩
        · intro a' u hS hd
          clear hd
          have hsz := hS.2.size
          go_simp
          exact ⟨_, rfl, ⟨_, rfl, hsz, heap_alloc_last _ _⟩, (Below.refl _ _).alloc (Nat.le_refl _) _⟩
      · intro a' u h
        obtain ⟨_, e36, g, rfl, hg1, hg2⟩ := h.new 8 (by decide) (by decide +kernel)
        obtain ⟨_, e10, bo, rfl, hb1, hb2⟩ := h.new 9 (by decide) (by decide +kernel)
        replace e36 : a'.tmps[36]? = some (.agg #[.int .i64 W, .int .i64 H, .slice (some ⟨g, 0, none⟩) 0 m]) := e36
        replace e10 : a'.tmps[10]? = some (.pointer (some ⟨bo, 0, none⟩)) := e10
        have e0 : a'.tmps[0]? = some (.string op) := h.old 0 (by decide)
        have e4 : a'.tmps[4]? = some (.pointer (some ⟨w.heap.size, 0, none⟩)) := h.old 4 (by decide)
        have e5 : a'.tmps[5]? = some (.pointer (some ⟨w.heap.size + 1, 0, none⟩)) := h.old 5 (by decide)
        have e6 : a'.tmps[6]? = some (.pointer (some ⟨w.heap.size + 1 + 1, 0, none⟩)) := h.old 6 (by decide)
        have e7 : a'.tmps[7]? = some (.int .i64 0) := h.old 7 (by decide)
        have e8 : a'.tmps[8]? = some (.pointer (some ⟨w1.heap.size, 0, none⟩)) := h.old 8 (by decide)
        have hsz : a'.tmps.size = 85 := h.size
        have hdf : a'.defers = [] := h.defers
        have hbu := h.below
        clear h
        have hne : g ≠ bo := row_not_img hg2 hb2
        refine wpList_store_row rfl 41 _ _ rfl bo _ (eval_tmp (t := 10) e10) (eval_tmp (t := 36) e36) 41 _ hb2 (imgSize3 _ _ _) (imgSz _ _ _ _ _ _) (imgOne _ _ _ _ _) ?_
        have O6 := Lib.hid (setRow_heap u bo _ #[.int .i64 W, .int .i64 H, .slice (some ⟨g, 0, none⟩) 0 m] _ _ hb2)
        have G6 := Lib.hid (World.ownsRow.kept hg2 (grownBy_setRow u bo #[.int .i64 W, .int .i64 H, .slice (some ⟨g, 0, none⟩) 0 m]) (.inr (by intro e; exact hne (Option.some.inj e))))
        have B6 := Lib.hid (below_setRow hbu hb1 #[.int .i64 W, .int .i64 H, .slice (some ⟨g, 0, none⟩) 0 m])
        clear hb2 hg2 hbu
        obtain ⟨tmps, defers⟩ := a'
        simp only at hsz hdf e36 e10 e0 e4 e5 e6 e7 e8
        subst hdf
        clear e36
        obtain ⟨ll⟩ := tmps
        match ll, hsz with
        | y0 :: y1 :: y2 :: y3 :: y4 :: y5 :: y6 :: y7 :: y8 :: y9 :: y10 :: y11 :: y12 :: y13 :: y14 :: y15 :: y16 :: y17 :: y18 :: y19 :: y20 :: y21 :: y22 :: y23 :: y24 :: y25 :: y26 :: y27 :: y28 :: y29 :: y30 :: y31 :: y32 :: y33 :: y34 :: y35 :: y36 :: y37 :: y38 :: y39 :: y40 :: y41 :: y42 :: y43 :: y44 :: y45 :: y46 :: y47 :: y48 :: y49 :: y50 :: y51 :: y52 :: y53 :: y54 :: y55 :: y56 :: y57 :: y58 :: y59 :: y60 :: y61 :: y62 :: y63 :: y64 :: y65 :: y66 :: y67 :: y68 :: y69 :: y70 :: y71 :: y72 :: y73 :: y74 :: y75 :: y76 :: y77 :: y78 :: y79 :: y80 :: y81 :: y82 :: y83 :: y84 :: [], _ =>
          obtain rfl : y0 = .string op := by simpa using e0
          obtain rfl : y4 = .pointer (some ⟨w.heap.size, 0, none⟩) := by simpa using e4
          obtain rfl : y5 = .pointer (some ⟨w.heap.size + 1, 0, none⟩) := by simpa using e5
          obtain rfl : y6 = .pointer (some ⟨w.heap.size + 1 + 1, 0, none⟩) := by simpa using e6
          obtain rfl : y7 = .int .i64 0 := by simpa using e7
          obtain rfl : y8 = .pointer (some ⟨w1.heap.size, 0, none⟩) := by simpa using e8
          obtain rfl : y10 = .pointer (some ⟨bo, 0, none⟩) := by simpa using e10
          clear e0 e4 e5 e6 e7 e8 e10
          generalize u.setRow bo #[.int .i64 W, .int .i64 H, .slice (some ⟨g, 0, none⟩) 0 m] = w6 at *
          have hb6 : bo < w6.heap.size := block_lt O6.out
          have HW6 := Lib.hid (HB3.out.trans (B6.out.mono HB3.out.size))
          have c2 := (cell_of_row _ _ 2 _ _ (0, 0) (((B6.out.alloc B6.out.size (.cells #[.int .i64 0] 3)).block _ (block_lt S1.out)).trans S1.out)).trans rfl
          go_wp2_with fail
          refine (chunk4_any q m mcap _).mono ?_
          rintro e w7 ⟨rfl, rfl⟩
          go_wp2_with fail
          refine (wpIn_wide (n := 6)).1 ?_
          -- the loop
          obtain ⟨qb, qo, hq⟩ : ∃ qb qo, q = some ⟨qb, qo, none⟩ := HM.out.rd.at (by rw [HM.out.len]; omega)
          subst hq
          obtain ⟨kk, hkk⟩ : ∃ kk : Nat, (kk : Int) = W * H := ⟨(W * H).toNat, by omega⟩
          have hm4 : m = 4 * kk := by have := G66.out; omega
          have hch : chunks m 4 = kk := by unfold chunks; omega
          have hkk2 : kk ≤ 65536 := by omega
          have HCH := Lib.hid hch
          have HM4 := Lib.hid hm4
          clear hkk hm4 hch
          obtain ⟨⟨p0, p1, p2⟩, p3⟩ := heap3' w6 (.cells #[.int .i64 0] 3) (.cells #[.slice (some ⟨qb, qo, none⟩) m mcap] 39) (.cells #[.int .i64 4] 3)
          have B8 := Lib.hid (((B6.out.alloc B6.out.size (.cells #[.int .i64 0] 3)).alloc (B6.out.alloc B6.out.size (.cells #[.int .i64 0] 3)).size (.cells #[.slice (some ⟨qb, qo, none⟩) m mcap] 39)).alloc ((B6.out.alloc B6.out.size (.cells #[.int .i64 0] 3)).alloc (B6.out.alloc B6.out.size (.cells #[.int .i64 0] 3)).size (.cells #[.slice (some ⟨qb, qo, none⟩) m mcap] 39)).size (.cells #[.int .i64 4] 3))
          have G8 := Lib.hid (((G6.out.alloc (.cells #[.int .i64 0] 3)).alloc (.cells #[.slice (some ⟨qb, qo, none⟩) m mcap] 39)).alloc (.cells #[.int .i64 4] 3))
          have O8 := Lib.hid ((below3 w6 (.cells #[.int .i64 0] 3) (.cells #[.slice (some ⟨qb, qo, none⟩) m mcap] 39) (.cells #[.int .i64 4] 3)).block _ (block_lt O6.out) |>.trans O6.out)
          clear c2
          generalize ((w6.alloc (.cells #[.int .i64 0] 3)).alloc (.cells #[.slice (some ⟨qb, qo, none⟩) m mcap] 39)).alloc (.cells #[.int .i64 4] 3) = w8 at *
          have c1 := (cell_of_row _ _ 0 _ _ (0, 0) p1).trans rfl
          have c2 := (cell_of_row _ _ 0 _ _ (0, 0) p2).trans rfl
          refine wpIn_rangeFunc_ownF rfl (by omega) (gf := 62) (lb := #[.pointer (some ⟨w6.heap.size + 1, 0, none⟩), .pointer (some ⟨w6.heap.size + 1 + 1, 0, none⟩)]) rfl trivial (enters_of Try.func62 (by kernel_rfl) rfl)
            (chunk_stops 5 (w6.heap.size + 1) (w6.heap.size + 1 + 1) _ m mcap 4 (by omega) (by omega) HM.out.fits (by omega) w8 (by omega) (by omega) qb qo (.inr rfl) c1 c2) (fun h k => h.trans k) (KeepsTwo.put (by omega) (by omega)) (Below.refl _ _) (fun _ => rfl)
            (ApplyI w3 w6.heap.size bo k a l W H wn (some ⟨qb, qo, none⟩) m mcap)
            (fun _ _ _ => False)
            (applyI_own (by have := B8.out.size; omega))
            (fun _ _ _ _ _ hs _ _ => hs)
            ⟨p0, p1, p2, ⟨g, m, O8.out, G8.out⟩, B8.out⟩
            (fun x => { tmps := #[.string op, y1, y2, y3, .pointer (some ⟨w.heap.size, 0, none⟩), .pointer (some ⟨w.heap.size + 1, 0, none⟩), .pointer (some ⟨w.heap.size + 1 + 1, 0, none⟩), .int .i64 0, .pointer (some ⟨w1.heap.size, 0, none⟩), y9, .pointer (some ⟨bo, 0, none⟩), .pointer (some ⟨w6.heap.size, 0, none⟩), chunkV qb qo m 4 x.1, y13, y14, y15, y16, y17, y18, y19, y20, y21, y22, y23, y24, y25, y26, y27, y28, y29, y30, y31, y32, y33, y34, y35, y36, .pointer (some ⟨w.heap.size + 1, 2, none⟩), .slice (some ⟨qb, qo, none⟩) m mcap, .func (.func 62) #[] #[.pointer (some ⟨w6.heap.size + 1, 0, none⟩), .pointer (some ⟨w6.heap.size + 1 + 1, 0, none⟩)], chunkV qb qo m 4 x.1, y41, y42, y43, y44, y45, y46, y47, y48, y49, y50, y51, y52, y53, y54, y55, y56, y57, y58, y59, y60, y61, y62, y63, y64, y65, y66, y67, y68, y69, y70, y71, y72, y73, y74, y75, y76, y77, y78, y79, y80, y81, y82, y83, y84], defers := [] }) ?assign ?body ?done ?stop
          case assign =>
            intro l x W K hK
            gi_wp2
            exact hK
          case body =>
            rintro lr pre ⟨xi, hxi⟩ W1 hI hlen
            have HI := Lib.hid hI
            rw [HCH.out] at hxi hlen
            obtain ⟨o4, ho4⟩ : ∃ o4, qo + xi * 4 = o4 := ⟨_, rfl⟩
            have hcv : chunkV qb qo m 4 xi = .slice (some ⟨qb, o4, none⟩) 4 4 := by
              unfold chunkV
              rw [show min 4 (m - xi * 4) = 4 by have := HM4.out; omega, ho4]
            have B1 := Lib.hid (HB3.out.trans (hI.below.mono HB3.out.size))
            have T0 := Lib.hid ((hI.below.block _ (block_lt S0.out)).trans S0.out)
            have T1 := Lib.hid ((hI.below.block _ (block_lt S1.out)).trans S1.out)
            have TO := Lib.hid ((hI.below.block _ (block_lt RO.out)).trans RO.out)
            have HD1 := Lib.hid (D3.out.below hI.below)
            have HA1 := Lib.hid (HA.out.below B1.out)
            have HM1 := HM.out.below B1.out
            have ki := (cell_of_row _ _ 0 _ _ (0, 0) hI.i).trans rfl
            have ka := (cell_of_row _ _ 0 _ _ (0, 0) T0.out).trans rfl
            have kw := (cell_of_row _ _ 0 _ _ (0, 0) T1.out).trans rfl
            have kd := (cell_of_row _ _ 2 _ _ (0, 0) TO.out).trans rfl
            have hcell : ∀ j, j < 4 → W1.cell? ⟨qb, o4 + j, none⟩ = some (.int .u16 (l.getD (4 * xi + j) 0)) := fun j hj => by
              have := HM1.rd.cell (4 * xi + j) (by rw [HM1.len]; have := HM4.out; omega)
              rw [← ho4, ← this]
              congr 2
              omega
            have x0 : W1.cell? ⟨qb, o4, none⟩ = some (.int .u16 (pix l xi).r) := hcell 0 (by omega)
            have x1 : W1.cell? ⟨qb, o4 + 1, none⟩ = some (.int .u16 (pix l xi).g) := hcell 1 (by omega)
            have x2 : W1.cell? ⟨qb, o4 + 2, none⟩ = some (.int .u16 (pix l xi).b) := hcell 2 (by omega)
            have x3 : W1.cell? ⟨qb, o4 + 3, none⟩ = some (.int .u16 (pix l xi).a) := hcell 3 (by omega)
            have HC := Lib.hid (HL.out.pix xi)
            have HPX : Hid (pix l xi = pix l xi) := Lib.hid rfl
            obtain ⟨c, hc⟩ : ∃ c, pix l xi = c := ⟨_, rfl⟩
            rw [hc] at x0 x1 x2 x3 HC
            have HCX := Lib.hid hc
            obtain ⟨pl, hpl⟩ : ∃ pl : Int, ((pre.length : Nat) : Int) = pl := ⟨_, rfl⟩
            have hpl0 : 0 ≤ pl := by omega
            have hpl1 : pl < 65536 := by omega
            have HPL' := Lib.hid hpl
            rw [hpl] at ki
            have hmod := Int.emod_nonneg pl (show W ≠ 0 by omega)
            have hmod2 := Int.emod_lt_of_pos pl (show 0 < W by omega)
            have hdiv := Int.ediv_nonneg hpl0 (show 0 ≤ W by omega)
            have hdiv2 : pl / W ≤ pl := Int.ediv_le_self _ hpl0
            have HPL : Hid (PlaceOk k (pl % W) (pl / W) W) := Lib.hid (.inr ⟨hmod, hmod2, by omega, hdiv, by omega⟩)
            obtain ⟨rc, hrc⟩ : ∃ rc, pm.res k a c (pl % W) (pl / W) W = rc := ⟨_, rfl⟩
            have HRC := Lib.hid hrc
            have HTM : Hid (pl.tmod W = pl % W) := Lib.hid (Int.tmod_eq_emod_of_nonneg hpl0)
            have HTD : Hid (IntKind.i64.wrap (pl.tdiv W) = pl / W) := Lib.hid (by rw [Int.tdiv_eq_ediv_of_nonneg hpl0]; exact IntWalk.i64_in _ (by omega))
            obtain ⟨g9, cap9, hbo9, hrow9⟩ := hI.out
            have HBO := Lib.hid hbo9
            have HROW := Lib.hid hrow9
            clear hcell HM1 hc hpl hrc HPX hI hbo9 hrow9
            dsimp only
            rw [hcv]
            clear hcv ho4
            gi_wp2
            refine round_region_any (by kernel_rfl) (by kernel_rfl) (by rintro ⟨_, _, h⟩; exact h) ?_
            refine wpAny_laid_tail (D := fun i => ([41, 42, 43, 44, 45, 46, 47, 48, 49, 50, 51, 52, 53, 54, 55, 56, 57, 58, 59, 60, 61, 62, 63, 64, 65, 66, 67, 68, 13] : List Nat).getD i 0)
              (R := fun i v w' => match i with
                | 0 => v = .pointer (some ⟨w1.heap.size, 2, none⟩)
                | 1 => v = d
                | 2 => v = .slice p n cap
                | 3 => v = .slice (some ⟨qb, o4, none⟩) 4 4
                | 4 => v = .pointer (some ⟨qb, o4, none⟩)
                | 5 => v = .int .u16 c.r
                | 6 => v = .slice (some ⟨qb, o4, none⟩) 4 4
                | 7 => v = .pointer (some ⟨qb, o4 + 1, none⟩)
                | 8 => v = .int .u16 c.g
                | 9 => v = .slice (some ⟨qb, o4, none⟩) 4 4
                | 10 => v = .pointer (some ⟨qb, o4 + 2, none⟩)
                | 11 => v = .int .u16 c.b
                | 12 => v = .slice (some ⟨qb, o4, none⟩) 4 4
                | 13 => v = .pointer (some ⟨qb, o4 + 3, none⟩)
                | 14 => v = .int .u16 c.a
                | 15 => v = .agg #[.int .u16 c.r, .int .u16 c.g, .int .u16 c.b, .int .u16 c.a]
                | 16 => v = .int .i64 pl
                | 17 => v = .pointer (some ⟨w.heap.size + 1, 0, none⟩)
                | 18 => v = .int .i64 W
                | 19 => v = .int .i64 (pl % W)
                | 20 => v = .int .i64 pl
                | 21 => v = .pointer (some ⟨w.heap.size + 1, 0, none⟩)
                | 22 => v = .int .i64 W
                | 23 => v = .int .i64 (pl / W)
                | 24 => v = .pointer (some ⟨w.heap.size + 1, 0, none⟩)
                | 25 => v = .int .i64 W
                | 26 => v = .agg #[.int .i64 (pl % W), .int .i64 (pl / W), .int .i64 W]
                | 27 => v = rc.val
                | 28 => NewColA W1.heap.size v w'
                | _ => True)
              (S := fun a' w' => (a'.tmps[4]? = some (.pointer (some ⟨w.heap.size, 0, none⟩)) ∧ a'.tmps[5]? = some (.pointer (some ⟨w.heap.size + 1, 0, none⟩)) ∧ a'.tmps[8]? = some (.pointer (some ⟨w1.heap.size, 0, none⟩)) ∧ a'.tmps[11]? = some (.pointer (some ⟨w6.heap.size, 0, none⟩)) ∧ a'.tmps[12]? = some (.slice (some ⟨qb, o4, none⟩) 4 4)) ∧ Below W1.heap.size W1 w')
              29 (by rfl) (by kernel_rfl) (by kernel_rfl) (by kernel_rfl) ?_ ?_ ?_ ?_
            · intro i v u u' h hb
              match i, h with
              | 0, h => exact h
              | 1, h => exact h
              | 2, h => exact h
              | 3, h => exact h
              | 4, h => exact h
              | 5, h => exact h
              | 6, h => exact h
              | 7, h => exact h
              | 8, h => exact h
              | 9, h => exact h
              | 10, h => exact h
              | 11, h => exact h
              | 12, h => exact h
              | 13, h => exact h
              | 14, h => exact h
              | 15, h => exact h
              | 16, h => exact h
              | 17, h => exact h
              | 18, h => exact h
              | 19, h => exact h
              | 20, h => exact h
              | 21, h => exact h
              | 22, h => exact h
              | 23, h => exact h
              | 24, h => exact h
              | 25, h => exact h
              | 26, h => exact h
              | 27, h => exact h
              | 28, h => exact NewColA.below h hb
              | i + 29, _ => trivial
            · intro a' u hb _ hold
              exact ⟨⟨hold 4 (by decide), hold 5 (by decide), hold 8 (by decide), hold 11 (by decide), hold 12 (by decide)⟩, hb⟩
            · refine ⟨?_, ?_, ?_, od_move 12 _ rfl (fun a u h => h.1.2.2.2.2) (fun _ => rfl), ?_, ?_, od_move 12 _ rfl (fun a u h => h.1.2.2.2.2) (fun _ => rfl), ?_, ?_, od_move 12 _ rfl (fun a u h => h.1.2.2.2.2) (fun _ => rfl), ?_, ?_, od_move 12 _ rfl (fun a u h => h.1.2.2.2.2) (fun _ => rfl), ?_, ?_, ?_, ?_, ?_, ?_, ?_, ?_, ?_, ?_, ?_, ?_, ?_, ?_, ?_, ?_, trivial⟩
              · intro a' u hS hd
                clear hd
                have e := hS.1.2.2.1
                go_simp
                exact ⟨_, rfl, rfl, Below.refl _ _⟩
              · intro a' u hS hd
                obtain ⟨_, e0, rfl⟩ := hd 0 (by kernel_rfl)
                have f0 : a'.tmps[41]? = some _ := e0
                clear e0
                clear hd
                have x0 := keep_cell hS.2 kd
                go_simp
                exact ⟨_, rfl, rfl, Below.refl _ _⟩
              · intro a' u hS hd
                clear hd
                have e := hS.1.1
                have x0 := keep_cell hS.2 ka
                go_simp
                exact ⟨_, rfl, rfl, Below.refl _ _⟩
              · intro a' u hS hd
                obtain ⟨_, e0, rfl⟩ := hd 3 (by kernel_rfl)
                have f0 : a'.tmps[44]? = some _ := e0
                clear e0
                clear hd
                go_simp
                exact ⟨_, rfl, rfl, Below.refl _ _⟩
              · intro a' u hS hd
                obtain ⟨_, e0, rfl⟩ := hd 4 (by kernel_rfl)
                have f0 : a'.tmps[45]? = some _ := e0
                clear e0
                clear hd
                have z0 := keep_cell hS.2 x0
                go_simp
                exact ⟨_, rfl, rfl, Below.refl _ _⟩
              · intro a' u hS hd
                obtain ⟨_, e0, rfl⟩ := hd 6 (by kernel_rfl)
                have f0 : a'.tmps[47]? = some _ := e0
                clear e0
                clear hd
                go_simp
                exact ⟨_, rfl, rfl, Below.refl _ _⟩
              · intro a' u hS hd
                obtain ⟨_, e0, rfl⟩ := hd 7 (by kernel_rfl)
                have f0 : a'.tmps[48]? = some _ := e0
                clear e0
                clear hd
                have z0 := keep_cell hS.2 x1
                go_simp
                exact ⟨_, rfl, rfl, Below.refl _ _⟩
              · intro a' u hS hd
                obtain ⟨_, e0, rfl⟩ := hd 9 (by kernel_rfl)
                have f0 : a'.tmps[50]? = some _ := e0
                clear e0
                clear hd
                go_simp
                exact ⟨_, rfl, rfl, Below.refl _ _⟩
              · intro a' u hS hd
                obtain ⟨_, e0, rfl⟩ := hd 10 (by kernel_rfl)
                have f0 : a'.tmps[51]? = some _ := e0
                clear e0
                clear hd
                have z0 := keep_cell hS.2 x2
                go_simp
                exact ⟨_, rfl, rfl, Below.refl _ _⟩
              · intro a' u hS hd
                obtain ⟨_, e0, rfl⟩ := hd 12 (by kernel_rfl)
                have f0 : a'.tmps[53]? = some _ := e0
                clear e0
                clear hd
                go_simp
                exact ⟨_, rfl, rfl, Below.refl _ _⟩
              · intro a' u hS hd
                obtain ⟨_, e0, rfl⟩ := hd 13 (by kernel_rfl)
                have f0 : a'.tmps[54]? = some _ := e0
                clear e0
                clear hd
                have z0 := keep_cell hS.2 x3
                go_simp
                exact ⟨_, rfl, rfl, Below.refl _ _⟩
              · intro a' u hS hd
                obtain ⟨_, e0, rfl⟩ := hd 5 (by kernel_rfl)
                have f0 : a'.tmps[46]? = some _ := e0
                clear e0
                obtain ⟨_, e1, rfl⟩ := hd 8 (by kernel_rfl)
                have f1 : a'.tmps[49]? = some _ := e1
                clear e1
                obtain ⟨_, e2, rfl⟩ := hd 11 (by kernel_rfl)
                have f2 : a'.tmps[52]? = some _ := e2
                clear e2
                obtain ⟨_, e3, rfl⟩ := hd 14 (by kernel_rfl)
                have f3 : a'.tmps[55]? = some _ := e3
                clear e3
                clear hd
                refine wp_built _ _ rfl [(0, .int .u16 c.r), (1, .int .u16 c.g), (2, .int .u16 c.b), (3, .int .u16 c.a)] #[.int .u16 c.r, .int .u16 c.g, .int .u16 c.b, .int .u16 c.a] (by simp [Act.eval, f0, f1, f2, f3]) rfl ⟨_, rfl, rfl, Below.refl _ _⟩
              · intro a' u hS hd
                clear hd
                have e := hS.1.2.2.2.1
                have x0 := keep_cell hS.2 ki
                go_simp
                exact ⟨_, rfl, rfl, Below.refl _ _⟩
              · intro a' u hS hd
                clear hd
                have e := hS.1.2.1
                go_simp
                exact ⟨_, rfl, rfl, Below.refl _ _⟩
              · intro a' u hS hd
                obtain ⟨_, e0, rfl⟩ := hd 17 (by kernel_rfl)
                have f0 : a'.tmps[58]? = some _ := e0
                clear e0
                clear hd
                have x0 := keep_cell hS.2 kw
                go_simp
                exact ⟨_, rfl, rfl, Below.refl _ _⟩
              · intro a' u hS hd
                obtain ⟨_, e0, rfl⟩ := hd 16 (by kernel_rfl)
                have f0 : a'.tmps[57]? = some _ := e0
                clear e0
                obtain ⟨_, e1, rfl⟩ := hd 18 (by kernel_rfl)
                have f1 : a'.tmps[59]? = some _ := e1
                clear e1
                clear hd
                have hW0 : ¬ W = 0 := by omega
                have hq := HTM.out
                go_simp
                exact ⟨_, rfl, rfl, Below.refl _ _⟩
              · intro a' u hS hd
                clear hd
                have e := hS.1.2.2.2.1
                have x0 := keep_cell hS.2 ki
                go_simp
                exact ⟨_, rfl, rfl, Below.refl _ _⟩
              · intro a' u hS hd
                clear hd
                have e := hS.1.2.1
                go_simp
                exact ⟨_, rfl, rfl, Below.refl _ _⟩
              · intro a' u hS hd
                obtain ⟨_, e0, rfl⟩ := hd 21 (by kernel_rfl)
                have f0 : a'.tmps[62]? = some _ := e0
                clear e0
                clear hd
                have x0 := keep_cell hS.2 kw
                go_simp
                exact ⟨_, rfl, rfl, Below.refl _ _⟩
              · intro a' u hS hd
                obtain ⟨_, e0, rfl⟩ := hd 20 (by kernel_rfl)
                have f0 : a'.tmps[61]? = some _ := e0
                clear e0
                obtain ⟨_, e1, rfl⟩ := hd 22 (by kernel_rfl)
                have f1 : a'.tmps[63]? = some _ := e1
                clear e1
                clear hd
                have hW0 : ¬ W = 0 := by omega
                have hq := HTD.out
                go_simp
                exact ⟨_, rfl, rfl, Below.refl _ _⟩
              · intro a' u hS hd
                clear hd
                have e := hS.1.2.1
                go_simp
                exact ⟨_, rfl, rfl, Below.refl _ _⟩
              · intro a' u hS hd
                obtain ⟨_, e0, rfl⟩ := hd 24 (by kernel_rfl)
                have f0 : a'.tmps[65]? = some _ := e0
                clear e0
                clear hd
                have x0 := keep_cell hS.2 kw
                go_simp
                exact ⟨_, rfl, rfl, Below.refl _ _⟩
              · intro a' u hS hd
                obtain ⟨_, e0, rfl⟩ := hd 19 (by kernel_rfl)
                have f0 : a'.tmps[60]? = some _ := e0
                clear e0
                obtain ⟨_, e1, rfl⟩ := hd 23 (by kernel_rfl)
                have f1 : a'.tmps[64]? = some _ := e1
                clear e1
                obtain ⟨_, e2, rfl⟩ := hd 25 (by kernel_rfl)
                have f2 : a'.tmps[66]? = some _ := e2
                clear e2
                clear hd
                refine wp_built _ _ rfl [(0, .int .i64 (pl % W)), (1, .int .i64 (pl / W)), (2, .int .i64 W)] #[.int .i64 (pl % W), .int .i64 (pl / W), .int .i64 W] (by simp [Act.eval, f0, f1, f2]) rfl ⟨_, rfl, rfl, Below.refl _ _⟩
              · intro a' u hS hd
                obtain ⟨_, e0, rfl⟩ := hd 1 (by kernel_rfl)
                obtain ⟨_, e1, rfl⟩ := hd 2 (by kernel_rfl)
                obtain ⟨_, e2, rfl⟩ := hd 15 (by kernel_rfl)
                obtain ⟨_, e3, rfl⟩ := hd 26 (by kernel_rfl)
                obtain ⟨f, caps, hf, hen, hcall⟩ := do_any k hk a c (pl % W) (pl / W) W p n cap _ u (HD1.out.below hS.2) HOK.out HC.out HPL.out (HA1.out.below hS.2)
                rw [hf] at e0
                refine wp_call3 42 43 56 67 _ rfl f caps _ _ _ e0 e1 e2 e3 hen hcall ?_
                rintro e u' ⟨rfl, hb⟩
                exact ⟨_, rfl, _, rfl, congrArg C4.val HRC.out, hb⟩
              · intro a' u hS hd
                clear hd
                have hsz := hS.2.size
                go_simp
                exact ⟨_, rfl, ⟨_, rfl, hsz, heap_alloc_last _ _⟩, (Below.refl _ _).alloc (Nat.le_refl _) _⟩
            · intro a' u h
              obtain ⟨_, e68, rfl⟩ := h.new 27 (by decide) (by decide +kernel)
              obtain ⟨_, e13, bc, rfl, hbc, hcc⟩ := h.new 28 (by decide) (by decide +kernel)
              replace e68 : a'.tmps[68]? = some (.agg #[.int .u16 rc.r, .int .u16 rc.g, .int .u16 rc.b, .int .u16 rc.a]) := e68
              replace e13 : a'.tmps[13]? = some (.pointer (some ⟨bc, 0, none⟩)) := e13
              have e10 : a'.tmps[10]? = some (.pointer (some ⟨bo, 0, none⟩)) := h.old 10 (by decide)
              have e11 : a'.tmps[11]? = some (.pointer (some ⟨w6.heap.size, 0, none⟩)) := h.old 11 (by decide)
              have hsz : a'.tmps.size = 85 := h.size
              have hdf : a'.defers = [] := h.defers
              have hbu := h.below
              clear h x0 x1 x2 x3 ki ka kw kd
              refine wpList_store_row rfl 33 _ _ rfl bc _ (eval_tmp (t := 13) e13) (eval_tmp (t := 68) e68) 33 _ hcc (colSize4 _ _ _ _) (colSz _ _ _ _ _ _ _ _) (colOne _ _ _ _) ?_
              have CC := Lib.hid (setRow_heap u bc _ #[.int .u16 rc.r, .int .u16 rc.g, .int .u16 rc.b, .int .u16 rc.a] _ _ hcc)
              have BU := Lib.hid (below_setRow hbu hbc #[.int .u16 rc.r, .int .u16 rc.g, .int .u16 rc.b, .int .u16 rc.a])
              clear hcc hbu
              generalize u.setRow bc #[.int .u16 rc.r, .int .u16 rc.g, .int .u16 rc.b, .int .u16 rc.a] = u2 at *
              obtain ⟨tmps, defers⟩ := a'
              simp only at hsz hdf e68 e13 e10 e11
              subst hdf
              clear e68
              obtain ⟨ll⟩ := tmps
              match ll, hsz with
              | z0 :: z1 :: z2 :: z3 :: z4 :: z5 :: z6 :: z7 :: z8 :: z9 :: z10 :: z11 :: z12 :: z13 :: z14 :: z15 :: z16 :: z17 :: z18 :: z19 :: z20 :: z21 :: z22 :: z23 :: z24 :: z25 :: z26 :: z27 :: z28 :: z29 :: z30 :: z31 :: z32 :: z33 :: z34 :: z35 :: z36 :: z37 :: z38 :: z39 :: z40 :: z41 :: z42 :: z43 :: z44 :: z45 :: z46 :: z47 :: z48 :: z49 :: z50 :: z51 :: z52 :: z53 :: z54 :: z55 :: z56 :: z57 :: z58 :: z59 :: z60 :: z61 :: z62 :: z63 :: z64 :: z65 :: z66 :: z67 :: z68 :: z69 :: z70 :: z71 :: z72 :: z73 :: z74 :: z75 :: z76 :: z77 :: z78 :: z79 :: z80 :: z81 :: z82 :: z83 :: z84 :: [], _ =>
                obtain rfl : z10 = .pointer (some ⟨bo, 0, none⟩) := by simpa using e10
                obtain rfl : z11 = .pointer (some ⟨w6.heap.size, 0, none⟩) := by simpa using e11
                obtain rfl : z13 = .pointer (some ⟨bc, 0, none⟩) := by simpa using e13
                clear e10 e11 e13
                have co := (cell_of_row _ _ 2 _ _ (0, 0) ((BU.out.block _ (block_lt HBO.out)).trans HBO.out)).trans rfl
                have k0 := (cell_of_row _ _ 0 _ _ (0, 0) CC.out).trans rfl
                have k1 := (cell_of_row _ _ 1 _ _ (0, 0) CC.out).trans rfl
                have k2 := (cell_of_row _ _ 2 _ _ (0, 0) CC.out).trans rfl
                have k3 := (cell_of_row _ _ 3 _ _ (0, 0) CC.out).trans rfl
                have HRU := Lib.hid ((ownsRow_below HROW.out BU.out).alloc (.cells #[.int .u16 rc.r, .int .u16 rc.g, .int .u16 rc.b, .int .u16 rc.a] 31))
                have HNW := Lib.hid (news_alloc u2 [.int .u16 rc.r, .int .u16 rc.g, .int .u16 rc.b, .int .u16 rc.a] 31)
                have SZU : w3.heap.size ≤ (u2.alloc (.cells #[.int .u16 rc.r, .int .u16 rc.g, .int .u16 rc.b, .int .u16 rc.a] 31)).heap.size := by
                  have h1 := HI.out.below.size
                  have h2 := BU.out.size
                  simp
                  omega
                obtain ⟨i0, hi, hz0, hz1, hz2⟩ := info_parts infoU16
                have hln : 4 * pre.length + 4 ≤ 262144 := by omega
                go_wp2_with fail
                gi_wp2_with (gi_at_builtin; go_must (refine wpListIn_append_own _ rfl _ _ 39 rfl w3.heap.size 31 i0 (.int .u16 0) 1 2 Try.underlying39 hi hz0 hz1 hz2 rfl (by decide) (.slice (some ⟨g9, 0, none⟩) (4 * pre.length) cap9) (4 * pre.length) _ rfl HRU.out ⟨u2.heap.size, 0, none⟩ 4 4 [.int .u16 rc.r, .int .u16 rc.g, .int .u16 rc.b, .int .u16 rc.a] rfl rfl HNW.out (by simp [Value.oneCell']) (by unfold maxLen; omega) (by omega) SZU ?_; intro v' w2 hown hg hnil; obtain ⟨g', cap', rfl⟩ := row_form hown (fun e => absurd (hnil.1 e).2 (by decide)); have HOWN := Lib.hid hown; have HGR := Lib.hid hg; have HIS := Lib.hid (applyI_step ⟨xi, by rw [HCH.out]; exact hxi⟩ HI.out HBO.out HROW.out BU.out hg (by rw [HCX.out, HPL'.out, ← HWN.out, HRC.out]; exact hown) hb6 hb1); have co2 := (cell_of_row _ _ 2 _ _ (0, 0) HIS.out.1.1).trans rfl; have fo2 := frozen_of_row _ _ 2 _ _ HIS.out.1.1; have ci2 := (cell_of_row _ _ 0 _ _ (0, 0) HIS.out.1.2).trans rfl; have fi2 := frozen_of_row _ _ 0 _ _ HIS.out.1.2; rw [HPL'.out] at ci2; clear hown hg hnil))
                have HR := HIS.out.2
                rw [HPL'.out] at HR
                exact HR
          case done =>
            rintro D ys W1 hD ⟨hS1, hS2⟩ hI hK
            obtain ⟨g9, cap9, hbo9, hrow9⟩ := hI.out
            have hB := hI.below
            have hN : w3.heap.size + 1 ≤ w6.heap.size := by have := B6.out.size; omega
            have T2 := Lib.hid ((hB.block _ (block_lt S2.out)).trans S2.out)
            have HBO := Lib.hid hbo9
            have HROW := Lib.hid hrow9
            have HB := Lib.hid (HB3.out.trans (hB.mono HB3.out.size))
            have HKD := Lib.hid hK
            have hS3 : ys.map (·.1) = List.range ys.length := hS2
            have hyl : ys.length = kk := by rw [hS1, HCH.out]
            have HOUT : Hid (pm.outs k a l wn 0 (ys.map (·.1)) = pm.applyOut op a W l) := Lib.hid (by
              rw [hS3, pm.outs_range, hyl]
              unfold pm.applyOut
              rw [HI.out]
              simp only [HWN.out, Int.toNat_natCast]
              rw [HM.out.len, HM4.out, Nat.mul_div_cancel_left _ (by omega)])
            have HLEN : Hid ((pm.applyOut op a W l).length = 4 * ys.length) := Lib.hid (by rw [← HOUT.out, pm.outs_length, List.length_map])
            clear hI hbo9 hrow9 hB hK hS1 hS2 hS3 hyl
            go_wp2_with (first
              | (with_reducible refine wpList_load_row rfl 41 _ rfl bo rfl 41 _ (0, 0) _ HBO.out Try.underlying41 rfl (imgSize3 _ _ _) ?_)
              | (with_reducible refine wpList_store_row rfl 41 _ _ rfl (w.heap.size + 1 + 1) _ rfl rfl 41 _ T2.out (imgSize3 _ _ _) (imgSz _ _ _ _ _ _) (imgOne _ _ _ _ _) ?_))
            have hDn : w3.heap.size + 1 ≤ D := by omega
            have hD2 : w.heap.size + 1 + 1 < w3.heap.size := by omega
            have hK' := (setRow_other W1 (w.heap.size + 1 + 1) D #[.int .i64 W, .int .i64 H, .slice (some ⟨g9, 0, none⟩) (4 * ys.length) cap9] (by omega)).trans HKD.out
            refine ⟨by simp, .inl ⟨_, _, rfl, run_takeDeferred hK', ?_⟩⟩
            have hrow := HROW.out
            rw [HOUT.out] at hrow
            have hg9 : w3.heap.size ≤ g9 := (World.ownsRow.lt hrow g9 rfl).1
            have hr2 := World.ownsRow.kept hrow (grownBy_setRow W1 (w.heap.size + 1 + 1) #[.int .i64 W, .int .i64 H, .slice (some ⟨g9, 0, none⟩) (4 * ys.length) cap9]) (.inr (by intro e; have h9 : g9 = w.heap.size + 1 + 1 := Option.some.inj e; omega))
            have hr3 := own_row (grownBy_putObj' _ D (.deferred none)) (fun r e => by cases e; exact ⟨_, hK', rfl⟩) hr2
            have hne : w.heap.size + 1 + 1 ≠ D := by omega
            have hpo : ((W1.setRow (w.heap.size + 1 + 1) #[.int .i64 W, .int .i64 H, .slice (some ⟨g9, 0, none⟩) (4 * ys.length) cap9]).putObj D (.deferred none)).heap[w.heap.size + 1 + 1]? = some (.cells #[.int .i64 W, .int .i64 H, .slice (some ⟨g9, 0, none⟩) (4 * ys.length) cap9] 41) := (World.putObj_heap_other hne).trans (setRow_heap _ _ _ _ _ _ T2.out)
            exact ⟨_, results_cell_tmp (p := 6) (q := 7) (ty := 41) rfl _ _ (w.heap.size + 1 + 1) 41 _ (0, 0) _ _ rfl rfl hpo Try.underlying41 rfl imgSize,
              ApplyPost.good HV.out HLEN.out (World.ownsRow.mono hr3 (by omega)) (take_deferred_below (by omega) (Nat.le_refl _) (below_setRow HB.out (by omega) _) _)⟩
          case stop =>
            rintro D c pre W1 _ _ h _
            exact h.elim
    · have hg' : goodB W H m = false := by simpa using hg
      have HV : Hid (pm.applyErr op a W H m = 6) := Lib.hid (by rw [HE.out, if_pos trivial, if_neg hg])
      rw [hg']
      clear hg hg'
      go_wp2_with (with_reducible refine wpList_store_row rfl 41 _ _ rfl (w.heap.size + 1 + 1) _ rfl rfl 41 _ S2.out (imgSize3 _ _ _) (imgSz _ _ _ _ _ _) (imgOne _ _ _ _ _) ?_)
      exact bodyPostM_ret (results_cell_tmp (p := 6) (q := 7) (ty := 41) rfl _ _ (w.heap.size + 1 + 1) 41 _ (0, 0) _ _ rfl rfl (setRow_heap _ _ _ _ _ _ S2.out) Try.underlying41 rfl imgSize) rfl (ApplyPost.bad HV.out (by omega) (below_setRow HB3.out (by omega) _))
  · have HV : Hid (pm.applyErr op a W H m = E) := Lib.hid (by rw [HE.out, if_neg hE])
    have HZ : Hid (¬ E = 0) := Lib.hid hE
    have hE' : (E == 0) = false := by simpa using hE
    clear hE
    go_wp2_with (first
      | (with_reducible refine wpList_store_row rfl 57 _ _ rfl w1.heap.size _ rfl rfl 57 _ (heap_alloc_last _ _) (opSize _ _ _) (opSz _ _ _ _ _ _) (opOneD HD.out) ?_; rw [World.setRow_alloc_new])
      | (with_reducible refine wpList_store_row rfl 41 _ _ rfl (w.heap.size + 1 + 1) _ rfl rfl 41 _ R2.out (imgSize3 _ _ _) (imgSz _ _ _ _ _ _) (imgOne _ _ _ _ _) ?_))
    exact bodyPostM_ret (results_cell_tmp (p := 6) (q := 7) (ty := 41) rfl _ _ (w.heap.size + 1 + 1) 41 _ (0, 0) _ _ rfl rfl (setRow_heap _ _ _ _ _ _ R2.out) Try.underlying41 rfl imgSize) rfl (ApplyPost.bad HV.out HZ.out (below_setRow HB2.out (by omega) _))
end Go.Proofs.Ytdemndjenlhahaa
