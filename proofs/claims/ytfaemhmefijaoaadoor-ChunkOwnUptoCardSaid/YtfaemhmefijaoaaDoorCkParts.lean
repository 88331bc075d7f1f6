/- The chunks of a file, one after another: the iterator's contract. -/
import Derived.Test.YtfaemhmefijaoaaDoorCkMath
import Derived.Test.YtfaemhmefijaoaaDoorCkRange
import Derived.Test.YtfaemhmefijaoaaDoorCkFence
import Derived.Test.YtfaemhmefijaoaaDoorSumsCrc
import Derived.Shelf.Abstract
import Derived.TacticsInMore
namespace Go.Proofs.YtfaemhmefijaoaaDoor
open Go.RowKit Go.Sort Go.Shelf

/-- a chunk that has been made: where its bytes lie -/
structure ck.El where
  t : List Int
  d : List Int
  g : Nat
  cap : Nat
def ck.El.ck (x : ck.El) : ck.Ck := (x.t, x.d)
def ck.El.val (x : ck.El) : Value := .agg #[.string (strOfNums x.t), .slice (some ⟨x.g, 0, none⟩) x.d.length x.cap]
def ck.El.Ok (x : ck.El) (base : Nat) (w : World) : Prop := w.ownsRow base 5 1 (.slice (some ⟨x.g, 0, none⟩) x.d.length x.cap) x.d.length (x.d.map (Value.int .u8))
theorem ck.El.Ok.below {x : ck.El} {base : Nat} {w w' : World} (h : x.Ok base w) (hb : Below w.heap.size w w') : x.Ok base w' := ownsRow_below h hb

/-- what a round keeps for the iterator: the box of what is left, and what lay before -/
def PartsKeep (n0 Bb : Nat) (W W' : World) : Prop := Below n0 W W' ∧ W'.heap[Bb]? = W.heap[Bb]?

theorem Sl.keep {k : IntKind} {w w' : World} {b off n cap n0 : Nat} {l : List Int} (h : Sl k w (some ⟨b, off, none⟩) n cap l) (hb : Below n0 w w') (hn : b < n0) : Sl k w' (some ⟨b, off, none⟩) n cap l := by
  refine ⟨h.len, h.fits, h.most, h.bare, h.wf, ?_⟩
  rcases h.rd with h0 | ⟨b', off', e, hc⟩
  · exact .inl h0
  · simp only [Option.some.injEq, Addr.mk.injEq, and_true] at e
    obtain ⟨rfl, rfl⟩ := e
    exact .inr ⟨b, off, rfl, fun i hi => (hb.cell (p := ⟨b, off + i, none⟩) hn).trans (hc i hi)⟩

theorem slots_55 {t : Array Value} (h : t.size = 55) : t = #[(fun i => t.getD i undef) 0, (fun i => t.getD i undef) 1, (fun i => t.getD i undef) 2, (fun i => t.getD i undef) 3, (fun i => t.getD i undef) 4, (fun i => t.getD i undef) 5, (fun i => t.getD i undef) 6, (fun i => t.getD i undef) 7, (fun i => t.getD i undef) 8, (fun i => t.getD i undef) 9, (fun i => t.getD i undef) 10, (fun i => t.getD i undef) 11, (fun i => t.getD i undef) 12, (fun i => t.getD i undef) 13, (fun i => t.getD i undef) 14, (fun i => t.getD i undef) 15, (fun i => t.getD i undef) 16, (fun i => t.getD i undef) 17, (fun i => t.getD i undef) 18, (fun i => t.getD i undef) 19, (fun i => t.getD i undef) 20, (fun i => t.getD i undef) 21, (fun i => t.getD i undef) 22, (fun i => t.getD i undef) 23, (fun i => t.getD i undef) 24, (fun i => t.getD i undef) 25, (fun i => t.getD i undef) 26, (fun i => t.getD i undef) 27, (fun i => t.getD i undef) 28, (fun i => t.getD i undef) 29, (fun i => t.getD i undef) 30, (fun i => t.getD i undef) 31, (fun i => t.getD i undef) 32, (fun i => t.getD i undef) 33, (fun i => t.getD i undef) 34, (fun i => t.getD i undef) 35, (fun i => t.getD i undef) 36, (fun i => t.getD i undef) 37, (fun i => t.getD i undef) 38, (fun i => t.getD i undef) 39, (fun i => t.getD i undef) 40, (fun i => t.getD i undef) 41, (fun i => t.getD i undef) 42, (fun i => t.getD i undef) 43, (fun i => t.getD i undef) 44, (fun i => t.getD i undef) 45, (fun i => t.getD i undef) 46, (fun i => t.getD i undef) 47, (fun i => t.getD i undef) 48, (fun i => t.getD i undef) 49, (fun i => t.getD i undef) 50, (fun i => t.getD i undef) 51, (fun i => t.getD i undef) 52, (fun i => t.getD i undef) 53, (fun i => t.getD i undef) 54] := slots_all h
set_option maxRecDepth 100000 in
set_option maxHeartbeats 3200000 in
theorem parts1_in (n l Bb n0 base : Nat) (b off len cap : Nat) (bs : List Int) (hbn : b < n0) (hBn : n0 ≤ Bb) (hlen : len ≤ 140737488355328)
    (J : List ck.El → World → Prop) (Jx : List ck.El → World → Prop)
    (hJd : ∀ pre W W' row, J pre W → W.grownBy W' row → (row = none ∨ row = some Bb) → J pre W')
    (hJn : ∀ pre W, J pre W → base ≤ W.heap.size)
    (hY : ∀ pre x W, J pre W → x.Ok base W → (∃ rest, ck.parse bs = (pre ++ [x]).map (·.ck) ++ rest) → YieldAt Fence.wide (n - 1) Tryd.prog l #[x.val] W fun e W' =>
      (e = .returned (.bool true) ∧ J (pre ++ [x]) W' ∧ PartsKeep n0 Bb W W') ∨ (e = .returned (.bool false) ∧ Jx (pre ++ [x]) W'))
    (W : World) (hS : Sl .u8 W (some ⟨b, off, none⟩) len cap bs) (hBb : W.heap[Bb]? = some (.cells #[.slice (some ⟨b, off, none⟩) len cap] 22 (0, 0))) (h0 : J [] W) :
    CallsIn Fence.wide n Tryd.prog 46 #[.func (.yield l) #[] #[], .pointer (some ⟨Bb, 0, none⟩)] W fun e W' => (∃ v, e = .returned v) ∧
      ((∃ xs : List ck.El, xs.map (·.ck) = ck.parse bs ∧ J xs W') ∨ (∃ xs, Jx xs W')) := by
  have HY := Lib.hid hY
  have HJ := Lib.hid hJd
  have HJN := Lib.hid hJn
  have H0 := Lib.hid h0
  have HS := Lib.hid hS
  have HB := Lib.hid hBb
  clear hY hJd hJn h0 hS hBb
  refine callsIn_of_wp Tryd.func46 rfl trivial ?_ rfl
  simp only [Tryd.ntmps46, List.size_toArray, List.length_cons, List.length_nil, Nat.reduceAdd, Nat.reduceSub, Array.replicate_succ, Array.replicate_zero, List.push_toArray, List.append_toArray, List.nil_append, List.cons_append]
  refine wpIn_wide.2 ?_
  go_wp2_with fail
  go_loopg [3] len (fun gk _ wr => ∃ (o m c : Nat) (pre : List ck.El) (rs : List Int), gk = m ∧ wr.heap[Bb]? = some (.cells #[.slice (some ⟨b, o, none⟩) m c] 22 (0, 0)) ∧ Sl .u8 wr (some ⟨b, o, none⟩) m c rs ∧ m ≤ len ∧ ck.parse bs = pre.map (·.ck) ++ ck.parse rs ∧ J pre wr)
  case atStart => exact ⟨off, len, cap, [], bs, rfl, HB.out, HS.out, Nat.le_refl _, rfl, H0.out⟩
  case round =>
    obtain ⟨o, m, c, pre, rs, hg, hbb, hs, hm, hp, hj⟩ := hrel
    have Hg := Lib.hid hg
    have HBr := Lib.hid hbb
    have HSr := Lib.hid hs
    have HP := Lib.hid hp
    have HJr := Lib.hid hj
    have cb := (cell_of_row _ _ 0 _ _ (0, 0) hbb).trans rfl
    have hfit := hs.fits
    have HL := Lib.hid hs.len
    clear hg hbb hs hp hj HB HS H0
    by_cases h12 : 12 ≤ m
    · have h12' : (12 : Int) ≤ (m : Int) := by omega
      go_wp2_with fail
      refine (uint32_any _ _ _ rs _ HSr.out (by omega)).mono ?_
      rintro e w1 ⟨rfl, hb1⟩
      have HB1 := Lib.hid ((hb1.block _ (block_lt HBr.out)).trans HBr.out)
      have HS1 := Lib.hid (HSr.out.below hb1)
      have HJ1 := Lib.hid (HJ.out _ _ _ none HJr.out (grown_of_below hb1) (.inl rfl))
      clear hb1 HBr HSr HJr
      obtain ⟨nn, hnn⟩ : ∃ nn, ck.be32 rs = nn := ⟨_, rfl⟩
      have HNN := Lib.hid hnn
      rw [hnn]
      clear hnn
      have cb := (cell_of_row _ _ 0 _ _ (0, 0) HB1.out).trans rfl
      by_cases hbig : nn < 2147483648 ∧ nn + 12 ≤ m
      · obtain ⟨hn1, hn2⟩ := hbig
        have k1 : decide (2147483648 ≤ (nn : Int)) = false := by simp; omega
        have k2 : decide ((m : Int) - 12 < (nn : Int)) = false := by simp; omega
        go_wp2_with fail
        have e1 : IntKind.u32.wrap (8 + (nn : Int)) = 8 + (nn : Int) := by rw [IntKind.wrap_u32]; omega
        have e2 : (0 : Int) ≤ 8 + (nn : Int) := by omega
        have e3 : (8 + (nn : Int)).toNat = 8 + nn := by omega
        have e4 : (4 : Int) ≤ 8 + (nn : Int) := by omega
        have e5 : 8 + (nn : Int) ≤ (c : Int) := by omega
        have e6 : 8 + (nn : Int) ≤ (m : Int) := by omega
        have e7 : (m : Int) ≤ (c : Int) := by omega
        have e8 : ¬ (c = 4) := by omega
        have e9 : ¬ (c = 8 + nn) := by omega
        go_quiet (fail)
        clear e1 e2 e3 e4 e5 e6 e7
        have hb2 : Below w1.heap.size w1 (w1.drewN nq) := below_drewN (Below.refl _ _) nq
        generalize w1.drewN nq = w2 at *
        have HB2 := Lib.hid ((hb2.block _ (block_lt HB1.out)).trans HB1.out)
        have HS2 := Lib.hid (HS1.out.below hb2)
        have HJ2 := Lib.hid (HJ.out _ _ _ none HJ1.out (grown_of_below hb2) (.inl rfl))
        clear hb2 HB1 HS1 HJ1 cb
        have hlb : 8 + nn - 4 = 4 + nn := by omega
        rw [hlb]
        clear hlb
        have HBd := Lib.hid ((HS2.out.drop (m := 4) (by omega)).take (m := 4 + nn) (by omega))
        have HT := Lib.hid ((HS2.out.drop (m := 4) (by omega)).take (m := 4) (by omega))
        have HR := Lib.hid (HS2.out.drop (m := 8 + nn) (by omega))
        have kc := conv_str HT.out
        go_wp2_with fail
        clear kc
        refine (letters_any _ _).mono ?_
        rintro e w3 ⟨rfl, hb3⟩
        have HB3 := Lib.hid ((hb3.block _ (block_lt HB2.out)).trans HB2.out)
        have HS3 := Lib.hid (HS2.out.below hb3)
        have HJ3 := Lib.hid (HJ.out _ _ _ none HJ2.out (grown_of_below hb3) (.inl rfl))
        have HBd3 := Lib.hid (HBd.out.below hb3)
        have HT3 := Lib.hid (HT.out.below hb3)
        have HR3 := Lib.hid (HR.out.below hb3)
        clear hb3 HB2 HS2 HJ2 HBd HT HR
        by_cases hlet : ck.letters4 (strOfNums ((rs.drop 4).take 4)) = true
        · rw [hlet]
          have HLet := Lib.hid hlet
          clear hlet
          have HBy := HBd3.out.bytes
          go_wp2_with fail
          refine (crc_any _ _ _ _ _ HBd3.out.len (Nat.le_trans HBd3.out.fits HBd3.out.most) HBd3.out.bytes HBd3.out.rd).mono ?_
          rintro e w4 ⟨rfl, hb4⟩
          have HB4 := Lib.hid ((hb4.block _ (block_lt HB3.out)).trans HB3.out)
          have HS4 := Lib.hid (HS3.out.below hb4)
          have HJ4 := Lib.hid (HJ.out _ _ _ none HJ3.out (grown_of_below hb4) (.inl rfl))
          have HBd4 := Lib.hid (HBd3.out.below hb4)
          have HT4 := Lib.hid (HT3.out.below hb4)
          have HR4 := Lib.hid (HR3.out.below hb4)
          clear hb4 HB3 HS3 HJ3 HBd3 HT3 HR3
          go_wp2_with fail
          refine (uint32_any _ _ _ _ _ HR4.out (by omega)).mono ?_
          rintro e w5 ⟨rfl, hb5⟩
          have HB5 := Lib.hid ((hb5.block _ (block_lt HB4.out)).trans HB4.out)
          have HS5 := Lib.hid (HS4.out.below hb5)
          have HJ5 := Lib.hid (HJ.out _ _ _ none HJ4.out (grown_of_below hb5) (.inl rfl))
          have HBd5 := Lib.hid (HBd4.out.below hb5)
          have HT5 := Lib.hid (HT4.out.below hb5)
          have HR5 := Lib.hid (HR4.out.below hb5)
          clear hb5 HB4 HS4 HJ4 HBd4 HT4 HR4
          by_cases hcrc : sm.crcOn 0 ((rs.drop 4).take (4 + nn)) = ck.be32 (rs.drop (8 + nn))
          · rw [hcrc]
            have HOK : Hid (ck.headOk rs) := Lib.hid ⟨by rw [HL.out]; exact h12, by rw [HNN.out]; exact hn1, by rw [HNN.out, HL.out]; exact hn2, HLet.out, by rw [HNN.out]; exact hcrc⟩
            clear hcrc
            have k3 : (((ck.be32 (rs.drop (8 + nn)) : Nat) : Int) != ((ck.be32 (rs.drop (8 + nn)) : Nat) : Int)) = false := by simp
            go_wp2_with fail
            clear k3
            have HJN5 := Lib.hid (HJN.out _ _ HJ5.out)
            have HDL : Hid (((rs.drop 8).take nn).length = nn) := Lib.hid (by rw [List.length_take, List.length_drop, HL.out]; omega)
            have HDS : Hid (Sl .u8 w5 (some ⟨b, o + 4 + 4, none⟩) nn (c - 4 - 4) ((rs.drop 8).take nn)) := Lib.hid (by
              have h1 := HBd5.out.drop (m := 4) (by omega)
              rw [show 4 + nn - 4 = nn by omega, List.drop_take, List.drop_drop, show 4 + nn - 4 = nn by omega] at h1
              exact h1)
            obtain ⟨tt, htt⟩ : ∃ x, (rs.drop 4).take 4 = x := ⟨_, rfl⟩
            obtain ⟨dd, hdd⟩ : ∃ x, (rs.drop 8).take nn = x := ⟨_, rfl⟩
            have HHC : Hid (ck.headCk rs = (tt, dd)) := Lib.hid (by unfold ck.headCk; rw [HNN.out, htt, hdd])
            rw [htt] at HT5 ⊢
            rw [hdd] at HDL HDS
            clear htt hdd
            refine (wpIn_wide (n := n)).1 ?_
            refine wpIn_region_any (by kernel_rfl) ?_
            refine wpAnyIn_laid_tails (fun h h' => oper_wide h h') (D := fun i => ([43, 44, 45, 46, 47, 48, 49, 50] : List Nat).getD i 0)
              (R := fun i v w' => match i with
                | 0 => v = .func (.yield l) #[] #[]
                | 1 => v = .slice (some ⟨b, o + 4, none⟩) (4 + nn) (c - 4)
                | 2 => v = .slice (some ⟨b, o + 4, none⟩) 4 (c - 4)
                | 3 => v = .string (strOfNums tt)
                | 4 => v = .slice (some ⟨b, o + 4, none⟩) (4 + nn) (c - 4)
                | 5 => v = .slice (some ⟨b, o + 4 + 4, none⟩) nn (c - 4 - 4)
                | 6 => ∃ g cap, v = .slice (some ⟨g, 0, none⟩) nn cap ∧ w'.ownsRow w5.heap.size 5 1 (.slice (some ⟨g, 0, none⟩) nn cap) nn (dd.map (Value.int .u8))
                | 7 => ∃ g cap, v = .agg #[.string (strOfNums tt), .slice (some ⟨g, 0, none⟩) nn cap] ∧ w'.ownsRow w5.heap.size 5 1 (.slice (some ⟨g, 0, none⟩) nn cap) nn (dd.map (Value.int .u8))
                | _ => True)
              (S := fun a' w' => (a'.tmps[0]? = some (.func (.yield l) #[] #[]) ∧ a'.tmps[4]? = some (.slice (some ⟨b, o + 4, none⟩) (4 + nn) (c - 4))) ∧ Below w5.heap.size w5 w')
              8 (by decide) (by kernel_rfl) (by decide +kernel) (by decide +kernel) (by decide +kernel) (by decide +kernel) (by kernel_rfl) ?_ ?_ (by kernel_rfl) ?_ ?_
            · intro i v u u' h hb
              match i, h with
              | 0, h => exact h
              | 1, h => exact h
              | 2, h => exact h
              | 3, h => exact h
              | 4, h => exact h
              | 5, h => exact h
              | 6, h => obtain ⟨g, cp, h1, h2⟩ := h; exact ⟨g, cp, h1, ownsRow_below h2 hb⟩
              | 7, h => obtain ⟨g, cp, h1, h2⟩ := h; exact ⟨g, cp, h1, ownsRow_below h2 hb⟩
              | i + 8, _ => trivial
            · intro a' u hb _ hold
              exact ⟨⟨hold 0 (by decide), hold 4 (by decide)⟩, hb⟩
            · refine ⟨?_, ?_, ?_, ?_, ?_, ?_, ?_, ?_, trivial⟩
              · intro a' u hS hd
                clear hd
                have e := hS.1.1
                go_simp
                exact ⟨_, rfl, rfl, Below.refl _ _⟩
              · intro a' u hS hd
                clear hd
                have e := hS.1.2
                go_simp
                exact ⟨_, rfl, rfl, Below.refl _ _⟩
              · intro a' u hS hd
                obtain ⟨_, e0, rfl⟩ := hd 1 (by kernel_rfl)
                have f0 : a'.tmps[44]? = some _ := e0
                clear hd e0
                have q1 : (4 : Int) ≤ (c - 4 : Nat) := by omega
                go_simp
                exact ⟨_, rfl, rfl, Below.refl _ _⟩
              · intro a' u hS hd
                obtain ⟨_, e0, rfl⟩ := hd 2 (by kernel_rfl)
                have f0 : a'.tmps[45]? = some _ := e0
                have kc := conv_str (HT5.out.below hS.2)
                clear hd e0
                go_simp
                exact ⟨_, rfl, rfl, Below.refl _ _⟩
              · intro a' u hS hd
                clear hd
                have e := hS.1.2
                go_simp
                exact ⟨_, rfl, rfl, Below.refl _ _⟩
              · intro a' u hS hd
                obtain ⟨_, e0, rfl⟩ := hd 4 (by kernel_rfl)
                have f0 : a'.tmps[47]? = some _ := e0
                clear hd e0
                have q1 : (4 : Int) ≤ (4 + nn : Nat) := by omega
                have q2 : ((4 + nn : Nat) : Int) ≤ (c - 4 : Nat) := by omega
                have q3 : ¬ (c - 4 = 4) := by omega
                have q4 : 4 + nn - 4 = nn := by omega
                have q5 : (4 : Int) ≤ 4 + (nn : Int) := by omega
                go_simp
                exact ⟨_, rfl, rfl, Below.refl _ _⟩
              · intro a' u hS hd
                obtain ⟨_, e0, rfl⟩ := hd 5 (by kernel_rfl)
                have f0 : a'.tmps[48]? = some _ := e0
                clear hd e0
                go_simp
                refine (clone_any b (o + 4 + 4) nn (c - 4 - 4) _ u (HDS.out.below hS.2) (by omega)).mono ?_
                rintro e u' ⟨v, rfl, ⟨g, cp, rfl, hg, hr⟩, hb⟩
                exact ⟨_, rfl, ⟨g, cp, rfl, World.ownsRow.mono hr hS.2.size⟩, hb⟩
              · intro a' u hS hd
                obtain ⟨_, e0, rfl⟩ := hd 3 (by kernel_rfl)
                obtain ⟨_, e1, g, cp, rfl, hr⟩ := hd 6 (by kernel_rfl)
                have f0 : a'.tmps[46]? = some _ := e0
                have f1 : a'.tmps[49]? = some _ := e1
                have HR := Lib.hid hr
                clear hd e0 e1 hr
                refine wp_built _ _ rfl [(0, .string (strOfNums tt)), (1, .slice (some ⟨g, 0, none⟩) nn cp)] #[.string (strOfNums tt), .slice (some ⟨g, 0, none⟩) nn cp] (by simp [Act.eval, f0, f1]) rfl ⟨_, rfl, ⟨g, cp, rfl, HR.out⟩, Below.refl _ _⟩
            · intro a' w6 h
              obtain ⟨_, e50, g, cp, rfl, hr⟩ := h.new 7 (by decide) (by decide +kernel)
              have e0 : a'.tmps[0]? = some (.func (.yield l) #[] #[]) := h.old 0 (by decide)
              obtain ⟨_, e43, rfl⟩ := h.new 0 (by decide) (by decide +kernel)
              have e1 : a'.tmps[1]? = some (.pointer (some ⟨Bb, 0, none⟩)) := h.old 1 (by decide)
              have e2 : a'.tmps[2]? = some undef := h.old 2 (by decide)
              have e5 : a'.tmps[5]? = some (.slice (some ⟨b, o + (8 + nn), none⟩) (m - (8 + nn)) (c - (8 + nn))) := h.old 5 (by decide)
              replace e50 : a'.tmps[50]? = some (.agg #[.string (strOfNums tt), .slice (some ⟨g, 0, none⟩) nn cp]) := e50
              replace e43 : a'.tmps[43]? = some (.func (.yield l) #[] #[]) := e43
              have hsz : a'.tmps.size = 55 := h.size
              have hdf : a'.defers = [] := h.defers
              have hb6 := h.below
              clear h
              obtain ⟨fw, hf⟩ : ∃ f : Nat → Value, (fun i => a'.tmps.getD i undef) = f := ⟨_, rfl⟩
              have htm := slots_55 hsz
              replace e0 : (fun i => a'.tmps.getD i undef) 0 = _ := slot_of e0
              replace e1 : (fun i => a'.tmps.getD i undef) 1 = _ := slot_of e1
              replace e2 : (fun i => a'.tmps.getD i undef) 2 = _ := slot_of e2
              replace e5 : (fun i => a'.tmps.getD i undef) 5 = _ := slot_of e5
              replace e43 : (fun i => a'.tmps.getD i undef) 43 = _ := slot_of e43
              replace e50 : (fun i => a'.tmps.getD i undef) 50 = _ := slot_of e50
              simp only [congrFun hf] at htm e0 e1 e2 e5 e43 e50
              obtain ⟨tmps, defers⟩ := a'
              simp only at hdf htm
              subst hdf
              rw [htm]
              clear htm hf hsz
              rw [e0, e1, e2, e5, e43, e50]
              clear e0 e1 e2 e5 e43 e50
              have HJ6 := HJ.out _ _ _ none HJ5.out (grown_of_below hb6) (.inl rfl)
              have HB6 := Lib.hid ((hb6.block _ (block_lt HB5.out)).trans HB5.out)
              have HR6 := Lib.hid (HR5.out.below hb6)
              have hval : (⟨tt, dd, g, cp⟩ : ck.El).val = .agg #[.string (strOfNums tt), .slice (some ⟨g, 0, none⟩) nn cp] := by unfold ck.El.val; rw [HDL.out]
              have hok : (⟨tt, dd, g, cp⟩ : ck.El).Ok base w6 := by
                unfold ck.El.Ok
                rw [HDL.out]
                exact World.ownsRow.mono hr (by have := HJN5.out; omega)
              have hex : ∃ rest, ck.parse bs = (pre ++ [(⟨tt, dd, g, cp⟩ : ck.El)]).map (·.ck) ++ rest := ⟨ck.parse (ck.headRest rs), by rw [HP.out, ck.parse_some HOK.out, HHC.out, List.map_append, List.append_assoc]; rfl⟩
              obtain ⟨fn, tm, asg, bd, hy, hR⟩ := HY.out pre ⟨tt, dd, g, cp⟩ w6 HJ6 hok hex
              rw [hval] at hy
              have HYR := Lib.hid hR
              clear hR hval hok hex HJ6 hr hb6 HJ5 HB5 HS5 HBd5 HT5 HR5
              simp only [List.drop_succ_cons, List.drop_zero]
              gi_wp2
              refine ⟨fun h => by simp [Fence.wide] at h, ?_⟩
              refine HYR.out.mono ?_
              rintro e W3 (⟨rfl, hJ3, hk3⟩ | ⟨rfl, hJx3⟩)
              · have HJ7 := Lib.hid hJ3
                have HB7 := Lib.hid (hk3.2.trans HB6.out)
                have HR7 := Lib.hid (HR6.out.keep hk3.1 hbn)
                have cb := (cell_of_row _ _ 0 _ _ (0, 0) HB7.out).trans rfl
                have fb := frozen_of_row _ _ 0 _ _ HB7.out
                have HHR : Hid (ck.headRest rs = rs.drop (12 + nn)) := Lib.hid (by unfold ck.headRest; rw [HNN.out])
                clear hJ3 hk3 HYR hy HB6 HR6
                have q1 : (4 : Int) ≤ (m - (8 + nn) : Nat) := by omega
                have q2 : ((m - (8 + nn) : Nat) : Int) ≤ (c - (8 + nn) : Nat) := by omega
                by_cases hc4 : c - (8 + nn) = 4
                · have HE : Hid (rs.drop (12 + nn) = []) := Lib.hid (List.drop_eq_nil_of_le (by rw [HL.out]; omega))
                  gi_wp2
                  go_wp2_with fail
                  go_roundg (m - (8 + nn) - 4)
                  case measure => have := Hg.out; omega
                  case rel => exact ⟨o + (8 + nn), m - (8 + nn) - 4, 0, pre ++ [⟨tt, dd, g, cp⟩], rs.drop (12 + nn), rfl, heap_setCell_same _ _ _ _ _ _ HB7.out, ⟨by rw [HE.out]; simp; omega, by omega, Nat.zero_le _, (fun e => by cases e), (fun x hx => by rw [HE.out] at hx; cases hx), .inl HE.out⟩, by omega, by rw [HP.out, ck.parse_some HOK.out, HHC.out, HHR.out, List.map_append, List.append_assoc]; rfl, HJ.out _ _ _ (some Bb) HJ7.out (grownBy_setCell3 _ _ _ _) (.inr rfl)⟩
                · gi_wp2
                  go_wp2_with fail
                  go_roundg (m - (8 + nn) - 4)
                  case measure => have := Hg.out; omega
                  case rel => exact ⟨o + (8 + nn) + 4, m - (8 + nn) - 4, c - (8 + nn) - 4, pre ++ [⟨tt, dd, g, cp⟩], rs.drop (12 + nn), rfl, heap_setCell_same _ _ _ _ _ _ HB7.out, by
                    have h1 := (HR7.out.drop (m := 4) (by omega)).keep ((Below.refl n0 W3).setCell (p := ⟨Bb, 0, none⟩) hBn (.slice (some ⟨b, o + (8 + nn) + 4, none⟩) (m - (8 + nn) - 4) (c - (8 + nn) - 4))) hbn
                    rw [List.drop_drop, show 8 + nn + 4 = 12 + nn by omega] at h1
                    exact h1, by omega, by rw [HP.out, ck.parse_some HOK.out, HHC.out, HHR.out, List.map_append, List.append_assoc]; rfl, HJ.out _ _ _ (some Bb) HJ7.out (grownBy_setCell3 _ _ _ _) (.inr rfl)⟩
              · have HX := Lib.hid hJx3
                clear hJx3
                gi_wp2
                go_wp2_with fail
                refine bodyPost_ret (results_none rfl _ _ _) rfl ?_
                exact ⟨⟨_, rfl⟩, .inr ⟨_, HX.out⟩⟩
          · have HN : Hid (ck.parse rs = []) := Lib.hid (ck.parse_none fun h => hcrc (by have h5 := h.2.2.2.2; rw [HNN.out] at h5; exact h5))
            have k3 : (((sm.crcOn 0 ((rs.drop 4).take (4 + nn)) : Nat) : Int) != ((ck.be32 (rs.drop (8 + nn)) : Nat) : Int)) = true := by simp; omega
            clear hcrc
            go_wp2_with fail
            refine bodyPost_ret (results_none rfl _ _ _) rfl ?_
            exact ⟨⟨_, rfl⟩, .inl ⟨pre, by rw [HP.out, HN.out, List.append_nil], HJ5.out⟩⟩
        · have hlet' : ck.letters4 (strOfNums ((rs.drop 4).take 4)) = false := by simpa using hlet
          rw [hlet']
          have HN : Hid (ck.parse rs = []) := Lib.hid (ck.parse_none fun h => hlet h.2.2.2.1)
          clear hlet hlet'
          go_wp2_with fail
          refine bodyPost_ret (results_none rfl _ _ _) rfl ?_
          exact ⟨⟨_, rfl⟩, .inl ⟨pre, by rw [HP.out, HN.out, List.append_nil], HJ3.out⟩⟩
      · have HN : Hid (ck.parse rs = []) := Lib.hid (ck.parse_none fun h => hbig (by have h2 := h.2.1; have h3 := h.2.2.1; rw [HNN.out] at h2 h3; rw [HL.out] at h3; exact ⟨h2, h3⟩))
        by_cases hn1 : nn < 2147483648
        · have k1 : decide (2147483648 ≤ (nn : Int)) = false := by simp; omega
          have k2 : decide ((m : Int) - 12 < (nn : Int)) = true := by simp; omega
          clear hbig
          go_wp2_with fail
          refine bodyPost_ret (results_none rfl _ _ _) rfl ?_
          exact ⟨⟨_, rfl⟩, .inl ⟨pre, by rw [HP.out, HN.out, List.append_nil], HJ1.out⟩⟩
        · have k1 : decide (2147483648 ≤ (nn : Int)) = true := by simp; omega
          clear hbig
          go_wp2_with fail
          refine bodyPost_ret (results_none rfl _ _ _) rfl ?_
          exact ⟨⟨_, rfl⟩, .inl ⟨pre, by rw [HP.out, HN.out, List.append_nil], HJ1.out⟩⟩
    · have HN : Hid (ck.parse rs = []) := Lib.hid (ck.parse_none fun h => h12 (by rw [← HL.out]; exact h.1))
      go_wp2_with fail
      go_end0
      exact ⟨⟨_, rfl⟩, .inl ⟨pre, by rw [HP.out, HN.out, List.append_nil], HJr.out⟩⟩

theorem parts_any (a : Option Addr) (n cap : Nat) (w : World) :
    Calls Tryd.prog 29 #[.slice a n cap] w fun e w' => e = .returned (.func (.func 46) #[] #[.pointer (some ⟨w.heap.size, 0, none⟩)]) ∧ w.alloc (.cells #[.slice a n cap] 22) = w' := by
  go_enter Tryd.func29, Tryd.ntmps29
  go_wp2
  go_ret
  exact ⟨rfl, rfl⟩
end Go.Proofs.YtfaemhmefijaoaaDoor
