/- quant.Back: an image of indices. -/
import Derived.Test.YtioeifbobhdccaaGreatDoorM21
import Derived.Test.YtioeifbobhdccaaGreatDoorM5
namespace Go.Proofs.YtioeifbobhdccaaGreatDoor
open Go.RowKit Go.Sort Go.Shelf Go.Maps
attribute [local go_sem] Oper.semAt_some
/-- the samples of indices -/
def imgOf (P : List C4) (I : List Int) : List Int := I.flatMap fun k => (P.getD k.toNat C4.zero).list
theorem imgOf_length (P : List C4) (I : List Int) : (imgOf P I).length = 4 * I.length := by
  induction I with
  | nil => rfl
  | cons a r ih =>
    have : imgOf P (a :: r) = (P.getD a.toNat C4.zero).list ++ imgOf P r := by simp [imgOf]
    rw [this, List.length_append, ih]
    simp [C4.list]
    omega
theorem imgOf_snoc (P : List C4) (I : List Int) (k : Int) : imgOf P (I ++ [k]) = imgOf P I ++ (P.getD k.toNat C4.zero).list := by simp [imgOf]
theorem take_snoc {I : List Int} {i : Nat} (h : i < I.length) : I.take (i + 1) = I.take i ++ [I.getD i 0] := by
  rw [List.take_add_one, List.getD_eq_getElem?_getD, List.getElem?_eq_getElem h]
  rfl
theorem run_append_u16 (w : World) (ty : TypeId) (base : Nat) (v : Value) (n : Nat) (xs : List Int) (hown : w.ownsRow base 36 1 v n (xs.map (Value.int .u16))) (g : Nat) (d : List Int)
    (hg : w.heap[g]? = some (.cells (d.map (Value.int .u16)).toArray 36 (0, 0))) (hb : n + d.length ≤ 17592186044416) (hbase : base ≤ w.heap.size) :
    ∃ v' w', (Builtin.append_ #[22, 22] ty #[v, .slice (some ⟨g, 0, none⟩) d.length d.length]).run Tryz.prog w = .ok v' w' ∧ (w'.ownsRow base 36 1 v' (n + d.length) ((xs ++ d).map (Value.int .u16)) ∧ w.grownBy w' v.ownBlock) := by
  obtain ⟨i0, hi, hz0, hz1, hz2⟩ := info_parts infoU16
  obtain ⟨v', w', h1, h2, h3, _, h5⟩ := run_append_own_at (P := Tryz.prog) w base 22 ty 36 i0 (.int .u16 0) 1 2 Tryz.underlying22 hi hz0 hz1 hz2 rfl (by decide) v n _ hown ⟨g, 0, none⟩ d.length d.length (d.map (Value.int .u16)) (by simp) (by
    intro j u hu
    have h1 : (⟨g, 0, none⟩ : Addr).add j = ⟨g, j, none⟩ := by unfold Addr.add; split <;> simp_all
    rw [h1, cell_of_row w g j _ _ (0, 0) hg]
    simpa using hu) (ints_oneCell _ _) (by unfold maxLen; omega) (by omega) hbase
  exact ⟨v', w', h1, by rw [List.map_append]; exact h2, h3⟩
theorem run_append_pix (w : World) (ty : TypeId) (base : Nat) (v : Value) (xs : List Int) (hown : w.ownsRow base 36 1 v xs.length (xs.map (Value.int .u16))) (g : Nat) (c : C4)
    (hg : w.heap[g]? = some (.cells #[.int .u16 c.r, .int .u16 c.g, .int .u16 c.b, .int .u16 c.a] 36 (0, 0))) (hb : xs.length ≤ 1099511627776) (hbase : base ≤ w.heap.size) :
    ∃ v' w', (Builtin.append_ #[22, 22] ty #[v, .slice (some ⟨g, 0, none⟩) 4 4]).run Tryz.prog w = .ok v' w' ∧ (w'.ownsRow base 36 1 v' (xs ++ c.list).length ((xs ++ c.list).map (Value.int .u16)) ∧ w.grownBy w' v.ownBlock) := by
  have h := run_append_u16 w ty base v xs.length xs hown g c.list hg (by simp [C4.list]; omega) hbase
  rw [← List.length_append] at h
  exact h
def BackPost (W H : Int) (l : List Int) (w : World) (e : Ending) (w' : World) : Prop :=
  ∃ v, e = .returned (.tuple #[.agg #[.int .i64 W, .int .i64 H, v], .int .i64 0]) ∧ w'.ownsRow w.heap.size 36 1 v l.length (l.map (Value.int .u16)) ∧ Below w.heap.size w w'
/-- between two rounds -/
def BackRel (w : World) (W H : Int) (P : List C4) (I : List Int) (N mb base : Nat) (fix : List (Nat × Array Value × TypeId)) (gk : Nat) (s55 : Value) (wr : World) : Prop :=
  ∃ (i : Nat) (vo : Value), i ≤ N ∧ gk = N - i ∧ s55 = .int .i64 (i : Nat) ∧ wr.heap[mb]? = some (.cells #[.int .i64 W, .int .i64 H, vo] 24 (0, 0)) ∧
    wr.ownsRow base 36 1 vo (imgOf P (I.take i)).length ((imgOf P (I.take i)).map (Value.int .u16)) ∧ (∀ p ∈ fix, wr.heap[p.1]? = some (.cells p.2.1 p.2.2 (0, 0))) ∧ Below w.heap.size w wr ∧ base ≤ wr.heap.size
set_option maxRecDepth 100000 in
set_option maxHeartbeats 1600000 in
theorem back_any (W H : Int) (hs : SidesOk W H) (qb qo qc : Nat) (P : List C4) (ib io ic : Nat) (N : Nat) (I : List Int) (w : World) (hP : RdC w (some ⟨qb, qo, none⟩) P) (hP2 : P.length ≤ 256) (hI : Sl .u8 w (some ⟨ib, io, none⟩) N ic I) (hN : (N : Int) = W * H)
    (hk : ∀ i, i < N → (I.getD i 0).toNat < P.length) :
    Calls Tryz.prog 11 #[.agg #[.int .i64 W, .int .i64 H, .slice (some ⟨qb, qo, none⟩) P.length qc, .slice (some ⟨ib, io, none⟩) N ic]] w (BackPost W H (imgOf P I) w) := by
  obtain ⟨h1, h2, h3, h4, h5⟩ := hs
  obtain ⟨m1, m2, m3⟩ := sides_mul h1 h2 h3 h4
  have e1 : IntKind.i64.wrap (W * H) = (N : Int) := by rw [← hN]; exact IntWalk.i64_in _ (by omega)
  have hN6 : N ≤ 65536 := by omega
  have HE1 := Lib.hid e1
  have HP := Lib.hid hP
  have HI := Lib.hid hI
  have HK := Lib.hid hk
  have hic := hI.fits
  have hIl := hI.len
  have HIL := Lib.hid hIl
  obtain ⟨q1, q2⟩ := heap2 w (.cells #[.int .i64 W, .int .i64 H, .slice (some ⟨qb, qo, none⟩) P.length qc, .slice (some ⟨ib, io, none⟩) N ic] 40) (.cells #[.int .i64 0, .int .i64 0, .slice none 0 0] 24)
  have B0 := Lib.hid (((Below.refl w.heap.size w).alloc (Nat.le_refl _) (.cells #[.int .i64 W, .int .i64 H, .slice (some ⟨qb, qo, none⟩) P.length qc, .slice (some ⟨ib, io, none⟩) N ic] 40)).alloc (by simp) (.cells #[.int .i64 0, .int .i64 0, .slice none 0 0] 24))
  have S0 : Hid (((w.alloc (.cells #[.int .i64 W, .int .i64 H, .slice (some ⟨qb, qo, none⟩) P.length qc, .slice (some ⟨ib, io, none⟩) N ic] 40)).alloc (.cells #[.int .i64 0, .int .i64 0, .slice none 0 0] 24)).heap.size = w.heap.size + 1 + 1) := Lib.hid (by simp)
  have Q1 := Lib.hid q1
  have Q2 := Lib.hid q2
  obtain ⟨pn, hpn⟩ : ∃ m, P.length = m := ⟨_, rfl⟩
  rw [hpn] at hP2 Q1 B0 Q2 S0 HK ⊢
  have HPN := Lib.hid hpn
  obtain ⟨qq, hqq⟩ : ∃ q, q = W * H := ⟨_, rfl⟩
  rw [← hqq] at m1 m2 h5 hN
  clear hP hI hk hIl q1 q2 hpn m3 hqq
  go_enter Tryz.func11, Tryz.ntmps11
  go_upto_region 1 with (fail)
  generalize (w.alloc (.cells #[.int .i64 W, .int .i64 H, .slice (some ⟨qb, qo, none⟩) pn qc, .slice (some ⟨ib, io, none⟩) N ic] 40)).alloc (.cells #[.int .i64 0, .int .i64 0, .slice none 0 0] 24) = w0 at *
  obtain ⟨bb, hbb⟩ : ∃ b, w.heap.size = b := ⟨_, rfl⟩
  rw [hbb] at Q1 Q2 S0 ⊢
  have HBB := Lib.hid hbb
  clear hbb
  have c0 := (cell_of_row w0 _ 0 _ _ (0, 0) Q1.out).trans (show _ = some (Value.int .i64 W) from rfl)
  have c1 := (cell_of_row w0 _ 1 _ _ (0, 0) Q1.out).trans (show _ = some (Value.int .i64 H) from rfl)
  have c2 := (cell_of_row w0 _ 2 _ _ (0, 0) Q1.out).trans (show _ = some (Value.slice (some ⟨qb, qo, none⟩) pn qc) from rfl)
  have c3 := (cell_of_row w0 _ 3 _ _ (0, 0) Q1.out).trans (show _ = some (Value.slice (some ⟨ib, io, none⟩) N ic) from rfl)
  go_cut [29] from 8 to 85 (fun s29 wx => s29 = .bool false ∧ w0 = wx)
  case first =>
    have hd1 : decide (W < 1) = false := decide_eq_false (by omega)
    have hd2 : decide (H < 1) = false := decide_eq_false (by omega)
    have hd3 : decide (4096 < W) = false := decide_eq_false (by omega)
    have hd4 : decide (4096 < H) = false := decide_eq_false (by omega)
    have hd5 : decide (65536 < qq) = false := decide_eq_false (by omega)
    go_wp2_with fail
    all_goals
      go_meet
      first
        | exact ⟨rfl, rfl⟩
        | exact ⟨by simp [hd1, hd2, hd3, hd4, hd5], rfl⟩
  case rest =>
    obtain ⟨rfl, rfl⟩ := hcut
    have hne : ((N : Int) != (N : Int)) = false := by simp
    have hgt : decide ((256 : Int) < (pn : Int)) = false := by simp; omega
    go_upto_region 6 with (fail)
    have hnw := heap_alloc_new w0 (.cells #[.int .i64 W, .int .i64 H, .slice none 0 0] 24)
    have hB1 : Below w0.heap.size w0 (w0.alloc (.cells #[.int .i64 W, .int .i64 H, .slice none 0 0] 24)) := (Below.refl _ _).alloc (Nat.le_refl _) _
    have hs1 : (w0.alloc (.cells #[.int .i64 W, .int .i64 H, .slice none 0 0] 24)).heap.size = w0.heap.size + 1 := by simp
    rw [S0.out] at hs1 hnw ⊢
    generalize w0.alloc (.cells #[.int .i64 W, .int .i64 H, .slice none 0 0] 24) = w1 at *
    have d3 := keep_cell hB1 c3
    have KA := Lib.hid ((hB1.block _ (block_lt Q1.out)).trans Q1.out)
    have KB := Lib.hid ((hB1.block _ (block_lt Q2.out)).trans Q2.out)
    have HB1 := Lib.hid (B0.out.trans (hB1.mono B0.out.size))
    have HNW := Lib.hid hnw
    have HS1 := Lib.hid hs1
    clear c0 c1 c2 c3 hne hgt hnw hB1 hs1 e1 Q1 Q2
    go_wp2_with fail
    go_loopg [55] N (fun gk s55 wr => BackRel w W H P I N (bb + 1 + 1) w1.heap.size [(bb, #[.int .i64 W, .int .i64 H, .slice (some ⟨qb, qo, none⟩) pn qc, .slice (some ⟨ib, io, none⟩) N ic], 40), (bb + 1, #[.int .i64 0, .int .i64 0, .slice none 0 0], 24)] gk s55 wr)
    case atStart =>
      refine ⟨0, .slice none 0 0, Nat.zero_le _, rfl, by go_num, HNW.out, World.ownsRow_nil _ _ _ _, fun p hp => ?_, HB1.out, Nat.le_refl _⟩
      simp only [List.mem_cons, List.not_mem_nil, or_false] at hp
      rcases hp with rfl | rfl
      · exact KA.out
      · exact KB.out
    case round =>
      obtain ⟨i, vo, hi, hgk, rfl, hmb, hrow, hfix, hbw, hbs⟩ := hrel
      have Hg := Lib.hid hgk
      have HMB := Lib.hid hmb
      have HROW := Lib.hid hrow
      have HFX := Lib.hid hfix
      have HBW := Lib.hid hbw
      have HBS := Lib.hid hbs
      have hpl := (cell_of_row wr _ 2 _ _ (0, 0) (hfix (bb, #[.int .i64 W, .int .i64 H, .slice (some ⟨qb, qo, none⟩) pn qc, .slice (some ⟨ib, io, none⟩) N ic], 40) (by simp))).trans (show _ = some (Value.slice (some ⟨qb, qo, none⟩) pn qc) from rfl)
      clear hgk hmb hrow hfix hbw hbs
      by_cases hlt : i < N
      · obtain ⟨_, _, ee, hcI⟩ := (HI.out.below HBW.out).cells (by omega)
        cases ee
        have hix := hcI i hlt
        have hkl := HK.out i hlt
        obtain ⟨k, hk⟩ : ∃ k : Nat, (I.getD i 0).toNat = k := ⟨_, rfl⟩
        have hke : I.getD i 0 = (k : Int) := by have := (byte_getD HI.out.bytes i).1; omega
        rw [hk] at hkl
        rw [hke] at hix
        have HKE := Lib.hid hke
        have HKK := Lib.hid hk
        clear hcI hk hke
        rcases HP.out.below HBW.out with hnil | ⟨_, _, ee, hcP⟩
        · exfalso
          have := HPN.out
          rw [hnil] at this
          simp at this
          omega
        cases ee
        obtain ⟨r0, r1, r2, r3⟩ := hcP k (by rw [HPN.out]; exact hkl)
        obtain ⟨c, hc⟩ : ∃ c, P.getD k C4.zero = c := ⟨_, rfl⟩
        rw [hc] at r0 r1 r2 r3
        have HC := Lib.hid hc
        clear hcP hc
        have hki : (k : Int) < (pn : Int) := by omega
        have hcap : ¬ ic = i := by omega
        go_upto_region 12 with (fail)
        have hnw := heap_alloc_new wr (.cells #[.int .u16 c.r, .int .u16 c.g, .int .u16 c.b, .int .u16 c.a] 38)
        have hB2 : Below wr.heap.size wr (wr.alloc (.cells #[.int .u16 c.r, .int .u16 c.g, .int .u16 c.b, .int .u16 c.a] 38)) := (Below.refl _ _).alloc (Nat.le_refl _) _
        obtain ⟨nb, hnb⟩ : ∃ b, wr.heap.size = b := ⟨_, rfl⟩
        have hbs := HBS.out
        rw [hnb] at hnw hbs ⊢
        generalize wr.alloc (.cells #[.int .u16 c.r, .int .u16 c.g, .int .u16 c.b, .int .u16 c.a] 38) = w2 at *
        have t0 := (cell_of_row w2 _ 0 _ _ (0, 0) hnw).trans (show _ = some (Value.int .u16 c.r) from rfl)
        have t1 := (cell_of_row w2 _ 1 _ _ (0, 0) hnw).trans (show _ = some (Value.int .u16 c.g) from rfl)
        have t2 := (cell_of_row w2 _ 2 _ _ (0, 0) hnw).trans (show _ = some (Value.int .u16 c.b) from rfl)
        have t3 := (cell_of_row w2 _ 3 _ _ (0, 0) hnw).trans (show _ = some (Value.int .u16 c.a) from rfl)
        have HB3 := Lib.hid (hB2.trans (((Below.refl w2.heap.size w2).alloc (Nat.le_refl _) (.cells #[.int .u16 c.r, .int .u16 c.g, .int .u16 c.b, .int .u16 c.a] 36)).mono hB2.size))
        have HN3 := Lib.hid (heap_alloc_new w2 (.cells #[.int .u16 c.r, .int .u16 c.g, .int .u16 c.b, .int .u16 c.a] 36))
        have k2 := (cell_of_row w2 _ 2 _ _ (0, 0) ((hB2.block _ (block_lt HMB.out)).trans HMB.out)).trans (show _ = some vo from rfl)
        have HR3 := Lib.hid (ownsRow_below HROW.out HB3.out)
        have HM3 := Lib.hid ((HB3.out.block _ (block_lt HMB.out)).trans HMB.out)
        have HS3 : Hid (w1.heap.size ≤ (w2.alloc (.cells #[.int .u16 c.r, .int .u16 c.g, .int .u16 c.b, .int .u16 c.a] 36)).heap.size) := Lib.hid (Nat.le_trans HBS.out HB3.out.size)
        have HLN : Hid ((imgOf P (I.take i)).length ≤ 1099511627776) := Lib.hid (by rw [imgOf_length, List.length_take]; omega)
        clear hnw hB2 hnb r0 r1 r2 r3 hpl hix
        go_wp2_with (at_builtin; go_must (refine wpList_of_append rfl (.tmp 72) (.tmp 81) 22 22 rfl (run_append_pix _ _ w1.heap.size vo (imgOf P (I.take i)) HR3.out w2.heap.size c HN3.out HLN.out HS3.out) ?_; rintro v9 w9 ⟨ho9, hg9⟩; obtain ⟨b9, c9, e9, _⟩ := own_form ho9 (by simp [C4.list]); subst e9; have HO9 := Lib.hid ho9; have HG9 := Lib.hid hg9; have hm9 := grown_block hg9 HM3.out (own_ne HR3.out HM3.out (by decide)); have HM9 := Lib.hid hm9; have k9 := (cell_of_row _ _ 2 _ _ (0, 0) hm9).trans (show _ = some vo from rfl); have kf := frozen_of_row _ _ 2 _ _ hm9; clear ho9 hg9 hm9))
        go_roundg (N - (i + 1))
        case measure => have := Hg.out; omega
        case rel =>
          have hst : imgOf P (I.take (i + 1)) = imgOf P (I.take i) ++ c.list := by rw [take_snoc (by rw [HIL.out]; exact hlt), imgOf_snoc, HKK.out, HC.out]
          have hm := heap_setCell_same w9 (bb + 1 + 1) 2 _ _ (.slice (some ⟨b9, 0, none⟩) (imgOf P (I.take i) ++ c.list).length c9) HM9.out
          have ho := World.ownsRow.kept HO9.out (grownBy_setCell3 w9 (bb + 1 + 1) 2 (.slice (some ⟨b9, 0, none⟩) (imgOf P (I.take i) ++ c.list).length c9)) (.inr fun e => own_ne HO9.out HM9.out (by decide) e.symm)
          have hlen : (imgOf P (I.take i) ++ c.list).length = (imgOf P (I.take i)).length + c.list.length := List.length_append
          have hup : ∀ {j : Nat} {cs : Array Value} {t : TypeId}, wr.heap[j]? = some (.cells cs t (0, 0)) → t ≠ 36 → j ≠ bb + 1 + 1 → (w9.setCell ⟨bb + 1 + 1, 2, none⟩ (.slice (some ⟨b9, 0, none⟩) (imgOf P (I.take i) ++ c.list).length c9)).heap[j]? = some (.cells cs t (0, 0)) := by
            intro j cs t h1 h2 h3
            have h4 := (HB3.out.block _ (block_lt h1)).trans h1
            exact grown_block (grownBy_setCell3 w9 (bb + 1 + 1) 2 _) (grown_block HG9.out h4 (own_ne HR3.out h4 h2)) (by intro e; exact h3 (Option.some.inj e))
          have hbel := ((HBW.out.trans (HB3.out.mono HBW.out.size)).grown HG9.out (Nat.le_trans HBW.out.size HB3.out.size) (fun j e => Nat.le_trans HB1.out.size (World.ownsRow.lt HR3.out j e).1)).setCell (p := ⟨bb + 1 + 1, 2, none⟩) (by have := HBB.out; dsimp only; omega) (.slice (some ⟨b9, 0, none⟩) (imgOf P (I.take i) ++ c.list).length c9)
          have hsz : w1.heap.size ≤ (w9.setCell ⟨bb + 1 + 1, 2, none⟩ (.slice (some ⟨b9, 0, none⟩) (imgOf P (I.take i) ++ c.list).length c9)).heap.size := Nat.le_trans (Nat.le_trans HS3.out HG9.out.size) (grownBy_setCell3 w9 (bb + 1 + 1) 2 _).size
          rw [hlen] at hm hbel hsz
          refine ⟨i + 1, _, by omega, rfl, by go_num, hm, ?_, fun p hp => ?_, hbel, hsz⟩
          · rw [hst]
            have ho2 := ho
            rw [show (Value.slice (some ⟨b9, 0, none⟩) (imgOf P (I.take i) ++ c.list).length c9) = Value.slice (some ⟨b9, 0, none⟩) ((imgOf P (I.take i)).length + c.list.length) c9 by rw [hlen]] at ho2
            exact ho2
          · have h0 := HFX.out p hp
            simp only [List.mem_cons, List.not_mem_nil, or_false] at hp
            rw [← hlen]
            rcases hp with rfl | rfl
            · exact hup h0 (by dsimp only; decide) (by dsimp only; omega)
            · exact hup h0 (by dsimp only; decide) (by dsimp only; omega)
      · obtain rfl : i = N := by omega
        rw [List.take_of_length_le (by rw [HIL.out]; exact Nat.le_refl _)] at HROW
        have hz := HFX.out (bb + 1, #[.int .i64 0, .int .i64 0, .slice none 0 0], 24) (by simp)
        have HZ := Lib.hid hz
        obtain ⟨b9, c9, e9, _⟩ := own_form HROW.out (by rw [imgOf_length, HIL.out]; omega)
        subst e9
        clear hz
        go_wp2_with (first
          | (with_reducible refine wpList_load_row rfl 24 _ rfl (bb + 1 + 1) rfl 24 _ (0, 0) _ HMB.out Tryz.underlying24 rfl (imgSize3 _ _ _) ?_)
          | (with_reducible refine wpList_store_row rfl 24 _ _ rfl (bb + 1) _ rfl rfl 24 _ HZ.out (imgSize3 _ _ _) (imgSz _ _ _ _ _ _) (imgOne _ _ _ _ _) ?_))
        have hr2 := World.ownsRow.kept HROW.out (grownBy_setRow wr (bb + 1) #[.int .i64 W, .int .i64 H, .slice (some ⟨b9, 0, none⟩) (imgOf P I).length c9]) (.inr (by intro e; have h9 : b9 = bb + 1 := Option.some.inj e; have := (World.ownsRow.lt HROW.out b9 rfl).1; have := HS1.out; omega))
        refine bodyPost_ret (results_cell_tmp (p := 2) (q := 3) (ty := 24) rfl _ _ (bb + 1) 24 _ (0, 0) _ _ rfl rfl (setRow_heap _ _ _ _ _ _ HZ.out) Tryz.underlying24 rfl imgSize) rfl ?_
        exact ⟨_, rfl, World.ownsRow.mono hr2 HB1.out.size, below_setRow HBW.out (by have := HBB.out; omega) _⟩
end Go.Proofs.YtioeifbobhdccaaGreatDoor
/- Frames of many slots, written out. -/
namespace Go.Proofs.YtioeifbobhdccaaGreatDoor
open Go.RowKit
set_option maxRecDepth 100000 in
theorem slots_210 {t : Array Value} (h : t.size = 210) : t = ⟨(fun i => t.getD i undef) 0 :: (fun i => t.getD i undef) 1 :: (fun i => t.getD i undef) 2 :: (fun i => t.getD i undef) 3 :: (fun i => t.getD i undef) 4 :: (fun i => t.getD i undef) 5 :: (fun i => t.getD i undef) 6 :: (fun i => t.getD i undef) 7 :: (fun i => t.getD i undef) 8 :: (fun i => t.getD i undef) 9 :: (fun i => t.getD i undef) 10 :: (fun i => t.getD i undef) 11 :: (fun i => t.getD i undef) 12 :: (fun i => t.getD i undef) 13 :: (fun i => t.getD i undef) 14 :: (fun i => t.getD i undef) 15 :: (fun i => t.getD i undef) 16 :: (fun i => t.getD i undef) 17 :: (fun i => t.getD i undef) 18 :: (fun i => t.getD i undef) 19 :: (fun i => t.getD i undef) 20 :: (fun i => t.getD i undef) 21 :: (fun i => t.getD i undef) 22 :: (fun i => t.getD i undef) 23 :: (fun i => t.getD i undef) 24 :: (fun i => t.getD i undef) 25 :: (fun i => t.getD i undef) 26 :: (fun i => t.getD i undef) 27 :: (fun i => t.getD i undef) 28 :: (fun i => t.getD i undef) 29 :: (fun i => t.getD i undef) 30 :: (fun i => t.getD i undef) 31 :: (fun i => t.getD i undef) 32 :: (fun i => t.getD i undef) 33 :: (fun i => t.getD i undef) 34 :: (fun i => t.getD i undef) 35 :: (fun i => t.getD i undef) 36 :: (fun i => t.getD i undef) 37 :: (fun i => t.getD i undef) 38 :: (fun i => t.getD i undef) 39 :: (fun i => t.getD i undef) 40 :: (fun i => t.getD i undef) 41 :: (fun i => t.getD i undef) 42 :: (fun i => t.getD i undef) 43 :: (fun i => t.getD i undef) 44 :: (fun i => t.getD i undef) 45 :: (fun i => t.getD i undef) 46 :: (fun i => t.getD i undef) 47 :: (fun i => t.getD i undef) 48 :: (fun i => t.getD i undef) 49 :: (fun i => t.getD i undef) 50 :: (fun i => t.getD i undef) 51 :: (fun i => t.getD i undef) 52 :: (fun i => t.getD i undef) 53 :: (fun i => t.getD i undef) 54 :: (fun i => t.getD i undef) 55 :: (fun i => t.getD i undef) 56 :: (fun i => t.getD i undef) 57 :: (fun i => t.getD i undef) 58 :: (fun i => t.getD i undef) 59 :: (fun i => t.getD i undef) 60 :: (fun i => t.getD i undef) 61 :: (fun i => t.getD i undef) 62 :: (fun i => t.getD i undef) 63 :: (fun i => t.getD i undef) 64 :: (fun i => t.getD i undef) 65 :: (fun i => t.getD i undef) 66 :: (fun i => t.getD i undef) 67 :: (fun i => t.getD i undef) 68 :: (fun i => t.getD i undef) 69 :: (fun i => t.getD i undef) 70 :: (fun i => t.getD i undef) 71 :: (fun i => t.getD i undef) 72 :: (fun i => t.getD i undef) 73 :: (fun i => t.getD i undef) 74 :: (fun i => t.getD i undef) 75 :: (fun i => t.getD i undef) 76 :: (fun i => t.getD i undef) 77 :: (fun i => t.getD i undef) 78 :: (fun i => t.getD i undef) 79 :: (fun i => t.getD i undef) 80 :: (fun i => t.getD i undef) 81 :: (fun i => t.getD i undef) 82 :: (fun i => t.getD i undef) 83 :: (fun i => t.getD i undef) 84 :: (fun i => t.getD i undef) 85 :: (fun i => t.getD i undef) 86 :: (fun i => t.getD i undef) 87 :: (fun i => t.getD i undef) 88 :: (fun i => t.getD i undef) 89 :: (fun i => t.getD i undef) 90 :: (fun i => t.getD i undef) 91 :: (fun i => t.getD i undef) 92 :: (fun i => t.getD i undef) 93 :: (fun i => t.getD i undef) 94 :: (fun i => t.getD i undef) 95 :: (fun i => t.getD i undef) 96 :: (fun i => t.getD i undef) 97 :: (fun i => t.getD i undef) 98 :: (fun i => t.getD i undef) 99 :: (fun i => t.getD i undef) 100 :: (fun i => t.getD i undef) 101 :: (fun i => t.getD i undef) 102 :: (fun i => t.getD i undef) 103 :: (fun i => t.getD i undef) 104 :: (fun i => t.getD i undef) 105 :: (fun i => t.getD i undef) 106 :: (fun i => t.getD i undef) 107 :: (fun i => t.getD i undef) 108 :: (fun i => t.getD i undef) 109 :: (fun i => t.getD i undef) 110 :: (fun i => t.getD i undef) 111 :: (fun i => t.getD i undef) 112 :: (fun i => t.getD i undef) 113 :: (fun i => t.getD i undef) 114 :: (fun i => t.getD i undef) 115 :: (fun i => t.getD i undef) 116 :: (fun i => t.getD i undef) 117 :: (fun i => t.getD i undef) 118 :: (fun i => t.getD i undef) 119 :: (fun i => t.getD i undef) 120 :: (fun i => t.getD i undef) 121 :: (fun i => t.getD i undef) 122 :: (fun i => t.getD i undef) 123 :: (fun i => t.getD i undef) 124 :: (fun i => t.getD i undef) 125 :: (fun i => t.getD i undef) 126 :: (fun i => t.getD i undef) 127 :: (fun i => t.getD i undef) 128 :: (fun i => t.getD i undef) 129 :: (fun i => t.getD i undef) 130 :: (fun i => t.getD i undef) 131 :: (fun i => t.getD i undef) 132 :: (fun i => t.getD i undef) 133 :: (fun i => t.getD i undef) 134 :: (fun i => t.getD i undef) 135 :: (fun i => t.getD i undef) 136 :: (fun i => t.getD i undef) 137 :: (fun i => t.getD i undef) 138 :: (fun i => t.getD i undef) 139 :: (fun i => t.getD i undef) 140 :: (fun i => t.getD i undef) 141 :: (fun i => t.getD i undef) 142 :: (fun i => t.getD i undef) 143 :: (fun i => t.getD i undef) 144 :: (fun i => t.getD i undef) 145 :: (fun i => t.getD i undef) 146 :: (fun i => t.getD i undef) 147 :: (fun i => t.getD i undef) 148 :: (fun i => t.getD i undef) 149 :: (fun i => t.getD i undef) 150 :: (fun i => t.getD i undef) 151 :: (fun i => t.getD i undef) 152 :: (fun i => t.getD i undef) 153 :: (fun i => t.getD i undef) 154 :: (fun i => t.getD i undef) 155 :: (fun i => t.getD i undef) 156 :: (fun i => t.getD i undef) 157 :: (fun i => t.getD i undef) 158 :: (fun i => t.getD i undef) 159 :: (fun i => t.getD i undef) 160 :: (fun i => t.getD i undef) 161 :: (fun i => t.getD i undef) 162 :: (fun i => t.getD i undef) 163 :: (fun i => t.getD i undef) 164 :: (fun i => t.getD i undef) 165 :: (fun i => t.getD i undef) 166 :: (fun i => t.getD i undef) 167 :: (fun i => t.getD i undef) 168 :: (fun i => t.getD i undef) 169 :: (fun i => t.getD i undef) 170 :: (fun i => t.getD i undef) 171 :: (fun i => t.getD i undef) 172 :: (fun i => t.getD i undef) 173 :: (fun i => t.getD i undef) 174 :: (fun i => t.getD i undef) 175 :: (fun i => t.getD i undef) 176 :: (fun i => t.getD i undef) 177 :: (fun i => t.getD i undef) 178 :: (fun i => t.getD i undef) 179 :: (fun i => t.getD i undef) 180 :: (fun i => t.getD i undef) 181 :: (fun i => t.getD i undef) 182 :: (fun i => t.getD i undef) 183 :: (fun i => t.getD i undef) 184 :: (fun i => t.getD i undef) 185 :: (fun i => t.getD i undef) 186 :: (fun i => t.getD i undef) 187 :: (fun i => t.getD i undef) 188 :: (fun i => t.getD i undef) 189 :: (fun i => t.getD i undef) 190 :: (fun i => t.getD i undef) 191 :: (fun i => t.getD i undef) 192 :: (fun i => t.getD i undef) 193 :: (fun i => t.getD i undef) 194 :: (fun i => t.getD i undef) 195 :: (fun i => t.getD i undef) 196 :: (fun i => t.getD i undef) 197 :: (fun i => t.getD i undef) 198 :: (fun i => t.getD i undef) 199 :: (fun i => t.getD i undef) 200 :: (fun i => t.getD i undef) 201 :: (fun i => t.getD i undef) 202 :: (fun i => t.getD i undef) 203 :: (fun i => t.getD i undef) 204 :: (fun i => t.getD i undef) 205 :: (fun i => t.getD i undef) 206 :: (fun i => t.getD i undef) 207 :: (fun i => t.getD i undef) 208 :: (fun i => t.getD i undef) 209 :: []⟩ := slots_all h
theorem mem_getD {l : List Nat} {i : Nat} (h : i < l.length) : l.getD i 0 ∈ l := by
  rw [List.getD_eq_getElem?_getD, List.getElem?_eq_getElem h]
  exact List.getElem_mem _
theorem fold_set (t : Array Value) : ∀ (ds : List Nat) (t0 : Array Value) (k : Nat), t.size = t0.size → (ds.foldl (fun u d => u.setIfInBounds d (t.getD d undef)) t0)[k]? = if k ∈ ds then t[k]? else t0[k]?
  | [], t0, k, _ => by simp
  | d :: ds, t0, k, h => by
    rw [List.foldl_cons, fold_set t ds _ k (by simpa using h)]
    by_cases hk : k ∈ ds
    · rw [if_pos hk, if_pos (List.mem_cons_of_mem _ hk)]
    · rw [if_neg hk]
      by_cases hd : d = k
      · subst hd
        rw [if_pos List.mem_cons_self]
        rcases Nat.lt_or_ge d t0.size with hl | hl
        · rw [Array.getElem?_setIfInBounds_self_of_lt hl]
          have hl' : d < t.size := by omega
          simp [Array.getD, hl']
        · rw [Array.getElem?_eq_none (by simpa using hl), Array.getElem?_eq_none (by omega)]
      · rw [Array.getElem?_setIfInBounds_ne hd, if_neg (by simp; exact ⟨fun e => hd e.symm, hk⟩)]
/-- a frame of which all but a few slots are as they were -/
theorem tmps_set {t t0 : Array Value} (hs : t.size = t0.size) (ds : List Nat) (h : ∀ d, d ∉ ds → t[d]? = t0[d]?) : t = ds.foldl (fun u d => u.setIfInBounds d (t.getD d undef)) t0 := by
  apply Array.ext_getElem?
  intro k
  rw [fold_set t ds t0 k hs]
  by_cases hk : k ∈ ds
  · rw [if_pos hk]
  · rw [if_neg hk, h k hk]
end Go.Proofs.YtioeifbobhdccaaGreatDoor
