/- gif: reader.picture at the words that gif.Encode writes. -/
import Derived.Test.YtioeifbobhdccaaGreatDoorM32
import Derived.Test.YtioeifbobhdccaaGreatDoorM34
import Derived.Test.YtioeifbobhdccaaGreatDoorM29
import Derived.Test.YtioeifbobhdccaaGreatDoorM35
import Derived.Test.YtioeifbobhdccaaGreatDoorM36
import Derived.Laws.CopyOwn
namespace Go.Proofs.YtioeifbobhdccaaGreatDoor
open Go.RowKit Go.Sort Go.Shelf Go.Maps
attribute [local go_sem] Oper.semAt_some
/-- two blocks may turn -/
structure Grown2 (g p : Nat) (w w' : World) : Prop where
  os : w'.os = w.os
  tape : w'.tape = w.tape
  output : w'.output = w.output
  size : w.heap.size ≤ w'.heap.size
  block : ∀ k, k < w.heap.size → k ≠ g → k ≠ p → w'.heap[k]? = w.heap[k]?
theorem Grown2.trans {g p : Nat} {A B C : World} (h : Grown2 g p A B) (k : Grown2 g p B C) : Grown2 g p A C :=
  ⟨k.os.trans h.os, k.tape.trans h.tape, k.output.trans h.output, Nat.le_trans h.size k.size, fun i hi h1 h2 => (k.block i (Nat.lt_of_lt_of_le hi h.size) h1 h2).trans (h.block i hi h1 h2)⟩
theorem Grown2.of {g p : Nat} {A B : World} {row : Option Nat} (h : A.grownBy B row) (hr : ∀ r, row = some r → r = g ∨ r = p ∨ A.heap.size ≤ r) : Grown2 g p A B :=
  ⟨h.os, h.tape, h.output, h.size, fun i hi h1 h2 => h.block i hi (by
    intro e
    rcases hr i e.symm with h | h | h
    · exact h1 h
    · exact h2 h
    · omega)⟩
theorem Grown2.put {g p D : Nat} {A B : World} (h : Grown2 g p A B) (hD : A.heap.size ≤ D) (o : Obj) : Grown2 g p A (B.putObj D o) :=
  ⟨h.os, h.tape, h.output, Nat.le_trans h.size (grownBy_putObj' B D o).size, fun k hk h1 h2 => (World.putObj_heap_other (by omega)).trans (h.block k hk h1 h2)⟩
def picBytes (W H zz : Nat) (pcs : List (List Int)) (rest : List Int) : List Int := 0 :: 0 :: 0 :: 0 :: (W : Int) % 256 :: (W : Int) / 256 :: (H : Int) % 256 :: (H : Int) / 256 :: 0 :: (zz : Int) :: (blkBytes pcs ++ 0 :: rest)
/-- the samples of indices of which one is clear -/
def picPix (P : List C4) (z : Int) (X : List Int) : List Int := X.flatMap fun k => if k = z then [0, 0, 0, 0] else (P.getD k.toNat C4.zero).list
theorem picPix_length (P : List C4) (z : Int) (X : List Int) : (picPix P z X).length = 4 * X.length := by
  induction X with
  | nil => rfl
  | cons a r ih =>
    have : picPix P z (a :: r) = (if a = z then [0, 0, 0, 0] else (P.getD a.toNat C4.zero).list) ++ picPix P z r := by simp [picPix]
    rw [this, List.length_append, ih]
    split <;> simp [C4.list] <;> omega
/-- the first i pixels are laid -/
def picMix (P : List C4) (z : Int) (X : List Int) (i : Nat) : List Int := picPix P z (X.take i) ++ List.replicate (4 * (X.length - i)) 0
theorem picMix_zero (P : List C4) (z : Int) (X : List Int) : picMix P z X 0 = List.replicate (4 * X.length) 0 := by simp [picMix, picPix]
theorem picMix_all (P : List C4) (z : Int) (X : List Int) : picMix P z X X.length = picPix P z X := by simp [picMix]
theorem picMix_length (P : List C4) (z : Int) (X : List Int) {i : Nat} (hi : i ≤ X.length) : (picMix P z X i).length = 4 * X.length := by
  simp [picMix, picPix_length]
  omega
theorem picMix_clear (P : List C4) {z : Int} {X : List Int} {i : Nat} (hi : i < X.length) (h : X.getD i 0 = z) : picMix P z X (i + 1) = picMix P z X i := by
  unfold picMix
  have e : ∀ m : Nat, List.replicate (4 * (m + 1)) (0 : Int) = [0, 0, 0, 0] ++ List.replicate (4 * m) 0 := fun m => by
    rw [show 4 * (m + 1) = 4 + 4 * m by omega, ← List.replicate_append_replicate]
    rfl
  rw [take_snoc hi, h, show X.length - i = (X.length - (i + 1)) + 1 by omega, e]
  simp [picPix]
theorem picMix_step (P : List C4) {z : Int} {X : List Int} {i : Nat} (hi : i < X.length) (h : ¬ X.getD i 0 = z) : splice (picMix P z X i) (4 * i) (P.getD (X.getD i 0).toNat C4.zero).list = picMix P z X (i + 1) := by
  have h1 : (picPix P z (X.take i)).length = 4 * i := by rw [picPix_length, List.length_take]; omega
  unfold splice picMix
  rw [List.take_append_of_le_length (by omega), List.take_of_length_le (by omega), List.drop_append, List.drop_eq_nil_of_le (by omega), List.nil_append, h1, take_snoc hi]
  have h2 : (P.getD (X.getD i 0).toNat C4.zero).list.length = 4 := rfl
  rw [h2, List.drop_replicate, show 4 * (X.length - i) - (4 * i + 4 - 4 * i) = 4 * (X.length - (i + 1)) by omega]
  unfold picPix
  rw [List.flatMap_append, List.flatMap_singleton, if_neg h, List.append_assoc]
/-- what was read of sub-blocks -/
def blkFlat (pre : List gb.Blk) : List Int := pre.flatMap (·.d)
/-- what an append within a round leaves -/
def PicRun (w1 : World) (g base : Nat) (fix : List (Nat × Array Value × TypeId)) (ob : Nat) (ty e : TypeId) (size n : Nat) (xs : List Value) (vo : Value) (W : World) (v' : Value) (w2 : World) : Prop :=
  ∃ b9 c9, v' = .slice (some ⟨b9, 0, none⟩) n c9 ∧ w2.heap[ob]? = some (.cells #[vo] ty (0, 0)) ∧ CurI w1 g base fix ob ty e size n xs (w2.setCell ⟨ob, 0, none⟩ v') ∧ KeepsOthers W (w2.setCell ⟨ob, 0, none⟩ v') ∧
    (∀ j o, W.heap[j]? = some o → j ≠ ob → some j ≠ vo.ownBlock → (w2.setCell ⟨ob, 0, none⟩ v').heap[j]? = some o)
theorem pic_run {w1 W : World} {g base ob : Nat} {fix : List (Nat × Array Value × TypeId)} {xs : List Int} {vo : Value} (ty : TypeId) (hfe : ∀ p ∈ fix, p.2.2 ≠ 5 ∧ p.1 ≠ ob) (hb : w1.heap.size ≤ base) (hwo : w1.heap.size ≤ ob) (hbs : base ≤ W.heap.size)
    (h : CurI w1 g base fix ob 26 5 1 xs.length (xs.map (Value.int .u8)) W) (ho : W.heap[ob]? = some (.cells #[vo] 26 (0, 0))) (ad : Addr) (m c : Nat) (d : List Int) (hs : Sl .u8 W (some ad) m c d) (hm : 1 ≤ m) (hn : xs.length + m ≤ 140737488355328) :
    ∃ v' w', (Builtin.append_ #[26, 26] ty #[vo, .slice (some ad) m c]).run Tryz.prog W = .ok v' w' ∧ PicRun w1 g base fix ob 26 5 1 (xs ++ d).length ((xs ++ d).map (Value.int .u8)) vo W v' w' := by
  obtain ⟨vo', ho', hr⟩ := h.box
  rw [ho] at ho'
  cases ho'
  have hlen := hs.len
  obtain ⟨v', w', h1, ⟨h2, h3⟩, _⟩ := run_append_sl_at W ty base vo _ xs hr ad m c d hs hn hbs
  rw [show xs.length + m = (xs ++ d).length by rw [List.length_append, hlen]] at h2
  obtain ⟨g9, c9, rfl, _⟩ := own_form h2 (by rw [List.length_append, hlen]; omega)
  obtain ⟨k1, k2, k3, k4⟩ := h.app hfe (by decide) hb hwo ho hr (Below.refl _ _) h3 h2
  exact ⟨_, _, h1, g9, c9, rfl, k1, k2, k3, k4⟩
theorem tells_pos {k : lz.K} {T : List (Nat × Nat)} {X : List Int} (up : Bool) (h : lz.Tells k T X) : 0 < (bt.bytes up (lz.bitsOfAll up T)).length := by
  obtain ⟨T0, st, rfl, _, _, hf⟩ := h
  have h1 := (hf (k.clear + 1, st.width) (by simp)).1
  have h2 : 0 < st.width := by
    rcases Nat.eq_zero_or_pos st.width with h | h
    · simp only [h] at h1
      omega
    · exact h
  rw [bt.bytes_length, lz.bitsOfAll_snoc, List.length_append, bt.bitsOf_length]
  omega
/-- a new block with one pixel -/
def NewPix (base : Nat) (c : C4) (v : Value) (w : World) : Prop := ∃ g, v = .slice (some ⟨g, 0, none⟩) 4 4 ∧ base ≤ g ∧ w.heap[g]? = some (.cells #[.int .u16 c.r, .int .u16 c.g, .int .u16 c.b, .int .u16 c.a] 36 (0, 0))
theorem NewPix.below {base : Nat} {c : C4} {v : Value} {w w' : World} (h : NewPix base c v w) (hb : Below w.heap.size w w') : NewPix base c v w' := by
  obtain ⟨g, h1, h2, h3⟩ := h
  exact ⟨g, h1, h2, (hb.block _ (block_lt h3)).trans h3⟩
theorem pix_news {w : World} {bc : Nat} {c : C4} (h : w.heap[bc]? = some (.cells #[.int .u16 c.r, .int .u16 c.g, .int .u16 c.b, .int .u16 c.a] 36 (0, 0))) : ∀ j v, (c.list.map (Value.int .u16))[j]? = some v → w.cell? ((⟨bc, 0, none⟩ : Addr).add j) = some v := by
  intro j v hv
  have h1 : (⟨bc, 0, none⟩ : Addr).add j = ⟨bc, j, none⟩ := by unfold Addr.add; split <;> simp_all
  rw [h1, cell_of_row _ _ j _ _ (0, 0) h, ← hv]
  simp [C4.list]
/-- between two pixels -/
structure PicI (W3 : World) (pb : Nat) (P : List C4) (z : Int) (X : List Int) (i : Nat) (wr : World) : Prop where
  row : wr.heap[pb]? = some (.cells ((picMix P z X i).map (Value.int .u16)).toArray 36 (0, 0))
  keep : W3.grownBy wr (some pb)
theorem PicI.own {W3 wr : World} {pb i lo size n : Nat} {P : List C4} {z : Int} {X : List Int} {e : TypeId} {v : Value} {xs : List Value} (h : PicI W3 pb P z X i wr) (ho : W3.ownsRow lo e size v n xs) (hne : v.ownBlock ≠ some pb) : wr.ownsRow lo e size v n xs :=
  World.ownsRow.kept ho h.keep (.inr hne)
theorem PicI.block {W3 wr : World} {pb i j : Nat} {P : List C4} {z : Int} {X : List Int} {o : Obj} (h : PicI W3 pb P z X i wr) (ho : W3.heap[j]? = some o) (hne : j ≠ pb) : wr.heap[j]? = some o :=
  grown_block h.keep ho (by intro e; exact hne (Option.some.inj e))
theorem PicI.below {W3 wr wr' : World} {pb i : Nat} {P : List C4} {z : Int} {X : List Int} (h : PicI W3 pb P z X i wr) (hb : Below wr.heap.size wr wr') : PicI W3 pb P z X i wr' :=
  ⟨(hb.block _ (block_lt h.row)).trans h.row, h.keep.trans (grown_some hb)⟩
theorem PicI.step {W3 wr u : World} {pb i : Nat} {P : List C4} {z : Int} {X : List Int} (h : PicI W3 pb P z X i wr) (hb : Below wr.heap.size wr u) (hi : i < X.length) (hz : ¬ X.getD i 0 = z) {c : C4} (hc : P.getD (X.getD i 0).toNat C4.zero = c) (q : Nat) (hq : q = 4 * i) :
    PicI W3 pb P z X (i + 1) (u.setRow pb ((((picMix P z X i).map (Value.int .u16)).toArray.toList.take q ++ ((c.list.map (Value.int .u16)) ++ ((picMix P z X i).map (Value.int .u16)).toArray.toList.drop (q + (c.list.map (Value.int .u16)).length))).toArray)) := by
  have h2 := h.below hb
  refine ⟨?_, h2.keep.trans (grownBy_setRow _ _ _)⟩
  rw [setRow_heap _ _ _ _ _ _ h2.row, ← picMix_step P hi hz, hc, hq]
  unfold splice
  simp
def gr.PicPost (g pb : Nat) (P : List C4) (z : Int) (X : List Int) (w : World) (e : Ending) (w' : World) : Prop :=
  (∃ v, e = .returned v) ∧ w'.heap[pb]? = some (.cells ((picPix P z X).map (Value.int .u16)).toArray 36 (0, 0)) ∧ Grown2 g pb w w'
set_option maxRecDepth 100000 in
set_option maxHeartbeats 3200000 in
theorem grPic_any (g b off n cap : Nat) (W H zz N : Nat) (pcs : List (List Int)) (rest : List Int) (w : World) (h : gr.At w g b off n cap (picBytes W H zz pcs rest))
    (hW : 1 ≤ W ∧ W ≤ 4096) (hH : 1 ≤ H ∧ H ≤ 4096) (hN : N = W * H) (hN6 : N ≤ 65536) (hz : 2 ≤ zz ∧ zz ≤ 8) (hps : ∀ p ∈ pcs, 1 ≤ p.length ∧ p.length ≤ 255)
    (T : List (Nat × Nat)) (X : List Int) (hT : lz.Tells (gifK zz) T X) (hX : X.length = N) (hdd : pcs.flatten = bt.bytes false (lz.bitsOfAll false T)) (hdn : pcs.flatten.length ≤ 1048576)
    (P : List C4) (lo qb pn qc : Nat) (hP : OwnC lo w (.slice (some ⟨qb, 0, none⟩) pn qc) P) (hPl : P.length = pn) (hpn : 1 ≤ pn ∧ pn ≤ 256) (hXP : ∀ x ∈ X, 0 ≤ x ∧ x < (pn : Int)) (hqg : qb ≠ g)
    (pb : Nat) (hpb : w.heap[pb]? = some (.cells ((List.replicate (4 * N) (0 : Int)).map (Value.int .u16)).toArray 36 (0, 0))) (hpg : pb ≠ g) (z : Int) :
    Calls Tryz.prog 29 #[.pointer (some ⟨g, 0, none⟩), .agg #[.int .i64 (W : Nat), .int .i64 (H : Nat), .slice (some ⟨pb, 0, none⟩) (4 * N) (4 * N)], .slice (some ⟨qb, 0, none⟩) pn qc, .int .i64 z] w (gr.PicPost g pb P z X w) := by
  have hgw := block_lt h.head
  have hpw := block_lt hpb
  obtain ⟨mb, hmb⟩ : ∃ mb, w.heap.size = mb := ⟨_, rfl⟩
  have HMB := Lib.hid hmb
  have q0 := heap_alloc_new w (.cells #[.int .i64 (W : Nat), .int .i64 (H : Nat), .slice (some ⟨pb, 0, none⟩) (4 * N) (4 * N)] 24 (0, 0))
  have hB0 : Below w.heap.size w (w.alloc (.cells #[.int .i64 (W : Nat), .int .i64 (H : Nat), .slice (some ⟨pb, 0, none⟩) (4 * N) (4 * N)] 24)) := (Below.refl _ _).alloc (Nat.le_refl _) _
  have HA0 := Lib.hid (h.below hB0)
  have HG0 := Lib.hid (grown_of_below hB0)
  have HPW := Lib.hid hpb
  have HPP := Lib.hid hP
  have HT := Lib.hid hT
  have HX := Lib.hid hX
  have HDD := Lib.hid hdd
  have HPS := Lib.hid hps
  have HXP := Lib.hid hXP
  have HPL := Lib.hid hPl
  have HNN := Lib.hid hN
  have HBG := Lib.hid h.apart
  rw [hmb] at q0
  have hl10 : 10 ≤ n := by rw [← h.data.len]; simp [picBytes]
  obtain ⟨hW1, hW6⟩ := hW
  obtain ⟨hH1, hH6⟩ := hH
  clear h hpb hP hT hX hdd hps hXP hPl hN hB0 hmb
  refine (callsIn_wide (n := 6)).1 (callsIn_of_wp_marks Tryz.func29 rfl trivial ?_ rfl)
  simp only [Tryz.ntmps29, List.size_toArray, List.length_cons, List.length_nil, Nat.reduceAdd, Nat.reduceSub, Array.replicate_succ, Array.replicate_zero, List.push_toArray, List.append_toArray, List.nil_append, List.cons_append]
  refine wpIn_wide.2 ?_
  go_upto_region 1 with (fail)
  rw [HMB.out]
  generalize w.alloc (.cells #[.int .i64 (W : Nat), .int .i64 (H : Nat), .slice (some ⟨pb, 0, none⟩) (4 * N) (4 * N)] 24) = w0 at *
  have Q0 := Lib.hid q0
  clear q0
  go_wp2_with fail
  refine (grTwo_any g b off n cap _ w0 HA0.out (by omega)).mono ?_
  rintro e w1 ⟨rfl, ⟨o1, ha1⟩, hg1⟩
  have HA1 := Lib.hid ha1
  have HG1 := Lib.hid hg1
  rw [show (picBytes W H zz pcs rest).getD 0 0 + 256 * (picBytes W H zz pcs rest).getD 1 0 = 0 from rfl]
  clear ha1 hg1
  go_wp2_with fail
  refine (grTwo_any g b o1 _ _ _ w1 HA1.out (by omega)).mono ?_
  rintro e w2 ⟨rfl, ⟨o2, ha2⟩, hg2⟩
  have HA2 := Lib.hid ha2
  have HG2 := Lib.hid (HG1.out.trans hg2)
  rw [show ((picBytes W H zz pcs rest).drop 2).getD 0 0 + 256 * ((picBytes W H zz pcs rest).drop 2).getD 1 0 = 0 from rfl]
  clear ha2 hg2 HA1 HG1
  go_wp2_with fail
  refine (grTwo_any g b o2 _ _ _ w2 HA2.out (by omega)).mono ?_
  rintro e w3 ⟨rfl, ⟨o3, ha3⟩, hg3⟩
  have HA3 := Lib.hid ha3
  have HG3 := Lib.hid (HG2.out.trans hg3)
  have eW : (((picBytes W H zz pcs rest).drop 2).drop 2).getD 0 0 + 256 * (((picBytes W H zz pcs rest).drop 2).drop 2).getD 1 0 = (W : Int) := by
    show (W : Int) % 256 + 256 * ((W : Int) / 256) = W
    omega
  rw [eW]
  clear ha3 hg3 HA2 HG2 eW
  go_wp2_with fail
  refine (grTwo_any g b o3 _ _ _ w3 HA3.out (by omega)).mono ?_
  rintro e w4 ⟨rfl, ⟨o4, ha4⟩, hg4⟩
  have HA4 := Lib.hid ha4
  have HG4 := Lib.hid (HG3.out.trans hg4)
  have eH : ((((picBytes W H zz pcs rest).drop 2).drop 2).drop 2).getD 0 0 + 256 * ((((picBytes W H zz pcs rest).drop 2).drop 2).drop 2).getD 1 0 = (H : Int) := by
    show (H : Int) % 256 + 256 * ((H : Int) / 256) = H
    omega
  rw [eH]
  clear ha4 hg4 HA3 HG3 eH
  go_wp2_with fail
  refine (grOne_any g b o4 _ _ _ w4 HA4.out (by omega)).mono ?_
  rintro e w5 ⟨rfl, ⟨o5, ha5⟩, hg5⟩
  have e9 : (((((picBytes W H zz pcs rest).drop 2).drop 2).drop 2).drop 2).drop 1 = (zz : Int) :: (blkBytes pcs ++ 0 :: rest) := rfl
  rw [e9] at ha5
  have HA5 := Lib.hid ha5
  have HG5 := Lib.hid (HG4.out.trans hg5)
  rw [show (((((picBytes W H zz pcs rest).drop 2).drop 2).drop 2).drop 2).getD 0 0 = 0 from rfl]
  clear ha5 hg5 HA4 HG4 e9
  go_upto_region 2 with (fail)
  have hmbg : mb ≠ g := by have := HMB.out; omega
  have Q5 := Lib.hid (grown_block HG5.out Q0.out (by intro e; exact hmbg (Option.some.inj e)))
  have c0 := (cell_of_row w5 _ 0 _ _ (0, 0) Q5.out).trans (show _ = some (Value.int .i64 (W : Nat)) from rfl)
  have c1 := (cell_of_row w5 _ 1 _ _ (0, 0) Q5.out).trans (show _ = some (Value.int .i64 (H : Nat)) from rfl)
  have hd1 : decide ((W : Int) < 1) = false := decide_eq_false (by omega)
  have hd2 : decide ((H : Int) < 1) = false := decide_eq_false (by omega)
  have hb128 : bits .and .i64 0 128 = 0 := by decide
  clear Q0
  go_wp2_with fail
  refine (grOne_any g b o5 _ _ _ w5 HA5.out (by omega)).mono ?_
  rintro e w6 ⟨rfl, ⟨o6, ha6⟩, hg6⟩
  rw [show ((zz : Int) :: (blkBytes pcs ++ 0 :: rest)).drop 1 = blkBytes pcs ++ 0 :: rest from rfl] at ha6
  have HA6 := Lib.hid ha6
  have hg06 := HG5.out.trans hg6
  have HG6 := Lib.hid hg06
  rw [show ((zz : Int) :: (blkBytes pcs ++ 0 :: rest)).getD 0 0 = (zz : Int) from rfl]
  have Q6 := Lib.hid (grown_block hg6 Q5.out (by intro e; exact hmbg (Option.some.inj e)))
  obtain ⟨ob, hob⟩ : ∃ ob, w6.heap.size = ob := ⟨_, rfl⟩
  have HOB := Lib.hid hob
  have hmo : mb < ob := by rw [← hob]; exact block_lt Q6.out
  have hgo : g < ob := by have := HMB.out; omega
  have hpo : pb < ob := by have := HMB.out; omega
  have hbo : b < ob := by rw [← hob]; exact ha6.lt (by rw [List.length_append, List.length_cons]; omega)
  clear ha6 hg6 hg06 HA5 HG5 Q5 c0 c1 hd1 hd2 hb128 hob
  go_wp2_with fail
  refine (blocks_any g _).mono ?_
  rintro e w8 ⟨rfl, rfl⟩
  obtain ⟨q1, q2⟩ := heap2 w6 (.cells #[.slice none 0 0] 26) (.cells #[.pointer (some ⟨g, 0, none⟩)] 59)
  have hB8 : Below w6.heap.size w6 ((w6.alloc (.cells #[.slice none 0 0] 26)).alloc (.cells #[.pointer (some ⟨g, 0, none⟩)] 59)) := ((Below.refl _ _).alloc (Nat.le_refl _) _).alloc (by simp) _
  have hs8 : ((w6.alloc (.cells #[.slice none 0 0] 26)).alloc (.cells #[.pointer (some ⟨g, 0, none⟩)] 59)).heap.size = ob + 1 + 1 := by simp [HOB.out]
  have hs7 : (w6.alloc (.cells #[.slice none 0 0] 26)).heap.size = ob + 1 := by simp [HOB.out]
  have HA8 := Lib.hid (HA6.out.below hB8)
  have q3 := (hB8.block mb (by rw [HOB.out]; exact hmo)).trans Q6.out
  rw [HOB.out] at q1 q2
  rw [hs7, HOB.out]
  have HG8 := Lib.hid (grown_of_below hB8)
  clear hB8 HA6 hs7 Q6
  go_wp2_with fail
  generalize (w6.alloc (.cells #[.slice none 0 0] 26)).alloc (.cells #[.pointer (some ⟨g, 0, none⟩)] 59) = w8 at *
  refine (wpIn_wide (n := 6)).1 ?_
  obtain ⟨fix, hfx⟩ : ∃ x : List (Nat × Array Value × TypeId), x = [(ob + 1, #[.pointer (some ⟨g, 0, none⟩)], 59), (mb, #[.int .i64 (W : Nat), .int .i64 (H : Nat), .slice (some ⟨pb, 0, none⟩) (4 * N) (4 * N)], 24)] := ⟨_, rfl⟩
  have hfe : ∀ p ∈ fix, p.2.2 ≠ 5 ∧ p.1 ≠ ob := by
    intro p hp
    rw [hfx] at hp
    simp only [List.mem_cons, List.not_mem_nil, or_false] at hp
    rcases hp with rfl | rfl <;> refine ⟨by dsimp only; decide, ?_⟩ <;> dsimp only <;> omega
  have hfg : ∀ p ∈ fix, p.1 ≠ g := by
    intro p hp
    rw [hfx] at hp
    simp only [List.mem_cons, List.not_mem_nil, or_false] at hp
    rcases hp with rfl | rfl <;> dsimp only <;> omega
  have hrm : (ob + 1, (#[.pointer (some ⟨g, 0, none⟩)] : Array Value), 59) ∈ fix := by rw [hfx]; simp
  have hmm : (mb, (#[.int .i64 (W : Nat), .int .i64 (H : Nat), .slice (some ⟨pb, 0, none⟩) (4 * N) (4 * N)] : Array Value), 24) ∈ fix := by rw [hfx]; simp
  have HFE := Lib.hid hfe
  have HFG := Lib.hid hfg
  have HRM := Lib.hid hrm
  have HMM := Lib.hid hmm
  have hI0 : CurI w6 g ob fix ob 26 5 1 (blkFlat ([] : List gb.Blk)).length ((blkFlat ([] : List gb.Blk)).map (Value.int .u8)) w8 := by
    refine ⟨fun p hp => ?_, ⟨_, q1, ⟨by simp [blkFlat], .inl ⟨rfl, rfl⟩⟩⟩, grown_any HG8.out⟩
    rw [hfx] at hp
    simp only [List.mem_cons, List.not_mem_nil, or_false] at hp
    rcases hp with rfl | rfl
    · exact q2
    · exact q3
  have HI0 := Lib.hid hI0
  have hrg : ob + 1 ≠ g := by omega
  have HQ2 := Lib.hid q2
  clear hI0 q1 q2 q3 hfe hfg hrm hmm hfx
  refine wpIn_rangeFunc_cur (α := gb.Blk) 67 15 (gb.Blk.val b) rfl (by omega) (gf := 92) (lb := #[.pointer (some ⟨ob + 1, 0, none⟩)]) rfl trivial (enters_of Tryz.func92 (by kernel_rfl) rfl)
    (blocks_seq 5 (ob + 1) g b pcs rest HPS.out hrg w8 HQ2.out _ _ _ HA8.out) (by omega) (fun h k => h.trans k) (gb.Kp.put (by omega) (by omega) (by omega)) (gb.Nx.put (by omega)) (gb.End.put (by omega) (by omega)) rfl
    (fun pre W => CurI w6 g ob fix ob 26 5 1 (blkFlat pre).length ((blkFlat pre).map (Value.int .u8)) W)
    (CurI.abides HFG.out (by have := HOB.out; omega) (by have := HOB.out; omega) (by have := HOB.out; omega) (by have := HOB.out; omega) _ _)
    HI0.out ?assign ?body ?done
  case assign =>
    intro lr x W1 K hK
    gi_wp2
    exact hK
  case body =>
    rintro lr pre xb W1 hI hnx
    unfold setTwo
    obtain ⟨vo, hbo, hrow⟩ := hI.box
    have HI := Lib.hid hI
    have HBO := Lib.hid hbo
    have HROW := Lib.hid hrow
    have k0 := (cell_of_row _ _ 0 _ _ (0, 0) hbo).trans (show _ = some vo from rfl)
    have hlen : (blkFlat pre).length + xb.d.length ≤ 1048576 := by
      obtain ⟨suf, hs⟩ := hnx.2
      have h1 := hdn
      rw [hs] at h1
      simp only [List.flatten_append, List.flatten_cons, List.length_append] at h1
      unfold blkFlat
      rw [← List.flatMap_def] at h1
      omega
    have hx1 : 1 ≤ xb.d.length := by
      obtain ⟨suf, hs⟩ := hnx.2
      exact (HPS.out xb.d (by rw [hs]; simp)).1
    have hsx := hnx.1
    have HSX := Lib.hid hsx
    have hrb1 := hI.grown.size
    have hbs : ob ≤ W1.heap.size := by have := HOB.out; omega
    have hw1 : w6.heap.size ≤ ob := by have := HOB.out; omega
    clear hI hbo hrow hnx hsx
    rw [show gb.Blk.val b xb = .slice (some ⟨b, xb.off, none⟩) xb.d.length xb.cap from rfl]
    obtain ⟨xn, hxn⟩ : ∃ x, xb.d.length = x := ⟨_, rfl⟩
    obtain ⟨xo, hxo⟩ : ∃ x, xb.off = x := ⟨_, rfl⟩
    obtain ⟨xc, hxc⟩ : ∃ x, xb.cap = x := ⟨_, rfl⟩
    rw [hxn, hxo, hxc] at HSX ⊢
    rw [hxn] at hlen hx1
    have hxm := hx1
    have HXN := Lib.hid hxn
    clear hxn hxo hxc
    dsimp only
    simp only [List.setIfInBounds_toArray, List.set_cons_succ, List.set_cons_zero]
    gi_upto_region 10 with (fail)
    refine round_region (by rintro ⟨_, _, h⟩; exact h) (by kernel_rfl) ?_
    go_wp2_with (at_builtin; go_must (refine wpList_of_append rfl (.tmp 68) (.tmp 69) 26 26 rfl (pic_run _ HFE.out hw1 hw1 hbs HI.out HBO.out ⟨b, xo, none⟩ xn xc xb.d HSX.out hxm (by omega)) ?_; rintro v9 w9 ⟨b9, c9, rfl, hm9, hI9, hk9, hr9⟩; have HI9 := Lib.hid hI9; have HK9 := Lib.hid hk9; have HR9 := Lib.hid hr9; have k9 := (cell_of_row w9 _ 0 _ _ (0, 0) hm9).trans (show _ = some vo from rfl); have kf := frozen_of_row w9 _ 0 _ _ hm9; clear hI9 hk9 hr9 hm9))
    have hkp := HI.out.kp (b := b) HRM.out HFE.out (by have := HOB.out; omega) (by have := HOB.out; omega) hw1 hw1 HROW.out HR9.out
    rw [← List.length_append]
    refine ⟨HK9.out, hkp, ?_⟩
    dsimp only
    rw [show blkFlat (pre ++ [xb]) = blkFlat pre ++ xb.d by simp [blkFlat]]
    exact HI9.out
  case done =>
    rintro D ys W1 hD ⟨hE, _⟩ hI hK
    have hfl : blkFlat ys = bt.bytes false (lz.bitsOfAll false T) := by
      rw [← HDD.out, ← hE]
      simp [blkFlat, List.flatMap_def]
    obtain ⟨vo, hbo, hrow⟩ := hI.box
    rw [hfl] at hrow hI
    obtain ⟨dn, hdl⟩ : ∃ d, (bt.bytes false (lz.bitsOfAll false T)).length = d := ⟨_, rfl⟩
    have hdn0 := tells_pos false HT.out
    rw [hdl] at hrow hdn0
    rw [HDD.out, hdl] at hdn
    obtain ⟨db, dc, rfl, hdc⟩ := own_form hrow hdn0
    have HK := Lib.hid hK
    have HG := Lib.hid hI.grown
    have HIM := Lib.hid (hI.fix _ HMM.out)
    have hsd : Sl .u8 W1 (some ⟨db, 0, none⟩) dn dc (bt.bytes false (lz.bitsOfAll false T)) := Fresh.sl hrow (wf_of_bytes (bt.bytes_range _ _))
    have HSD := Lib.hid hsd
    have CU := Lib.hid (gifUnpack_any zz hz.1 hz.2 T X HT.out db 0 dn dc W1 hsd (by omega) N (Nat.le_of_eq HX.out) (by omega))
    have k0 := (cell_of_row _ _ 0 _ _ (0, 0) hbo).trans (show _ = some (Value.slice (some ⟨db, 0, none⟩) dn dc) from rfl)
    have hWH : IntKind.i64.wrap ((W : Int) * (H : Int)) = (N : Int) := by
      rw [show (W : Int) * (H : Int) = (N : Int) by rw [HNN.out]; simp]
      exact IntWalk.i64_in _ (by omega)
    clear hI hbo hrow hK hsd hfl hE hdl
    go_wp2_with fail
    refine CU.out.mono ?_
    rintro e W2 ⟨vx, rfl, hvx, hb2⟩
    rw [HX.out] at hvx
    have hN1 : 1 ≤ N := by rw [HNN.out]; exact Nat.mul_pos hW1 hH1
    obtain ⟨xb, xc, rfl, hxc⟩ := own_form hvx (by omega)
    have HVX := Lib.hid hvx
    have HB2 := Lib.hid hb2
    have c0 := (cell_of_row W1 _ 0 _ _ (0, 0) HIM.out).trans (show _ = some (Value.int .i64 (W : Nat)) from rfl)
    have hq1 : ((N : Int) != (N : Int)) = false := by simp
    have hq2 : ((pn : Int) == 0) = false := by simp; omega
    have hb64 : bits .and .i64 0 64 = 0 := by decide
    have CR := Lib.hid (rows_any H (by omega) W2)
    clear hvx hb2 k0 c0 CU
    go_wp2_with fail
    refine CR.out.mono ?_
    rintro e W3 ⟨rb9, rc, rfl, hrw, hb3⟩
    obtain ⟨_, _, ee, hrc⟩ := own_form hrw (by omega)
    cases ee
    have hb13 := HB2.out.trans (hb3.mono HB2.out.size)
    have hg3 : w.grownBy W3 (some g) := (((grown_any HG0.out).trans HG6.out).trans HG.out).trans (grown_some hb13)
    have hZ3 : PicI W3 pb P z X 0 W3 := ⟨by rw [picMix_zero, HX.out]; exact grown_block hg3 HPW.out (by intro e; exact hpg (Option.some.inj e)), ⟨rfl, rfl, rfl, Nat.le_refl _, fun _ _ _ => rfl⟩⟩
    have hne1 : (Value.slice (some ⟨qb, 0, none⟩) pn qc).ownBlock ≠ some pb := (own_ne HPP.out HPW.out (by decide)).symm
    have hP3 : OwnC lo W3 (.slice (some ⟨qb, 0, none⟩) pn qc) P := World.ownsRow.kept HPP.out hg3 (.inr (by intro e; exact hqg (Option.some.inj e)))
    have hI3 := (hb13.block _ (block_lt HIM.out)).trans HIM.out
    have hK3 := (hb13.block _ (block_lt HK.out)).trans HK.out
    have hV3 := ownsRow_below HVX.out hb3
    have hob1 : ob ≤ W1.heap.size := by have := HG.out.size; have := HOB.out; omega
    have hne2 : xb ≠ pb := by have := (World.ownsRow.lt HVX.out xb rfl).1; omega
    have hne3 : rb9 ≠ pb := by have := (World.ownsRow.lt hrw rb9 rfl).1; have := HB2.out.size; omega
    have hne4 : mb ≠ pb := by have := HMB.out; omega
    have HNE1 := Lib.hid hne1
    have HG3 := Lib.hid hg3
    have HZ3 := Lib.hid hZ3
    have HP3 := Lib.hid hP3
    have HI3 := Lib.hid hI3
    have HK3 := Lib.hid hK3
    have HV3 := Lib.hid hV3
    have HR3 := Lib.hid hrw
    clear hb13 hg3 hZ3 hP3 hI3 hK3 hV3 hrw hb3 hq1 hq2 hb64 hne1 CR HVX HB2 HIM HK HG HG0 HG6 HG8 HPP HPW hWH HFE HFG HRM HMM HI0 HQ2 HSD HA8 HDD HT
    go_wp2_with fail
    have hDpb : D ≠ pb := by omega
    go_loopg [103] H (fun gk s103 wr => ∃ i : Nat, i ≤ H ∧ gk = H - i ∧ s103 = .int .i64 (i : Nat) ∧ PicI W3 pb P z X (i * W) wr)
    case atStart => exact ⟨0, Nat.zero_le _, rfl, by go_num, by rw [Nat.zero_mul]; exact HZ3.out⟩
    case round =>
      obtain ⟨i, hi, hgk, rfl, hpi⟩ := hrel
      have Hg := Lib.hid hgk
      have HPI := Lib.hid hpi
      clear hgk hpi
      by_cases hlt : i < H
      · have hci := (World.ownsRow.cellAt (HPI.out.own HR3.out (by intro e; exact hne3 (Option.some.inj e))) i (by omega))
        have hui : (upInts H)[i]? = some (.int .i64 (i : Nat)) := by simp [upInts, hlt]
        rw [hui] at hci
        obtain ⟨r, hr⟩ : ∃ r, i * W = r := ⟨_, rfl⟩
        have hrW : r + W ≤ N := by rw [← hr, HNN.out, Nat.mul_comm W H, ← Nat.succ_mul]; exact Nat.mul_le_mul_right W hlt
        have hm1 : IntKind.i64.wrap ((i : Int) * (W : Int)) = (r : Int) := by
          rw [show (i : Int) * (W : Int) = (r : Int) by rw [← hr]; simp]
          exact IntWalk.i64_in _ (by omega)
        have hm2 : IntKind.i64.wrap (((i : Int) + 1) * (W : Int)) = (r : Int) + (W : Int) := by
          rw [show ((i : Int) + 1) * (W : Int) = (r : Int) + (W : Int) by rw [Int.add_mul, ← hr]; simp]
          exact IntWalk.i64_in _ (by omega)
        have hli : (i : Int) < (H : Int) := by omega
        rw [hr] at HPI
        have HR := Lib.hid hr
        have hcx : ¬ xc = r := by omega
        have hxr : (r : Int) + (W : Int) ≤ (xc : Int) := by omega
        clear hui hr
        go_wp2_with fail
        clear hm1 hm2 hcx hxr hci
        rw [Nat.add_sub_cancel_left]
        obtain ⟨wo, hwo⟩ : ∃ wo : World, wo = wr := ⟨_, rfl⟩
        rw [← hwo] at HPI ⊢
        clear hwo wr
        go_loopg [118] W (fun gk s118 wr => ∃ k : Nat, k ≤ W ∧ gk = W - k ∧ s118 = .int .i64 (k : Nat) ∧ PicI W3 pb P z X (r + k) wr)
        case atStart => exact ⟨0, Nat.zero_le _, rfl, by go_num, HPI.out⟩
        case round =>
          obtain ⟨k, hk, hgk, rfl, hpk⟩ := hrel
          have Hgk := Lib.hid hgk
          have HPK := Lib.hid hpk
          clear hgk hpk HPI
          by_cases hkt : k < W
          · have hcx := (World.ownsRow.cellAt (HPK.out.own HV3.out (by intro e; exact hne2 (Option.some.inj e))) (r + k) (by omega))
            have hXl : r + k < X.length := by rw [HX.out]; omega
            have hui : (X.map (Value.int .u8))[r + k]? = some (.int .u8 (X.getD (r + k) 0)) := by
              rw [List.getElem?_map, List.getElem?_eq_getElem hXl, List.getD_eq_getElem?_getD, List.getElem?_eq_getElem hXl]
              rfl
            rw [hui] at hcx
            have hxr := HXP.out (X.getD (r + k) 0) (by rw [List.getD_eq_getElem?_getD, List.getElem?_eq_getElem hXl]; exact List.getElem_mem _)
            obtain ⟨xn, hxn⟩ : ∃ x : Nat, (X.getD (r + k) 0).toNat = x := ⟨_, rfl⟩
            have hxe : X.getD (r + k) 0 = (xn : Int) := by omega
            rw [hxe] at hcx hxr
            have HXE := Lib.hid hxe
            have HXL := Lib.hid hXl
            have hoc : OwnC lo wr (.slice (some ⟨qb, 0, none⟩) pn qc) P := HPK.out.own HP3.out HNE1.out
            obtain ⟨pa, pc, ee, _, _, hcP, _⟩ := hoc.rd
            clear hoc
            rcases hcP with hnil | ⟨_, _, e2, hcP⟩
            · exfalso
              have := HPL.out
              rw [hnil] at this
              simp at this
              omega
            subst e2
            simp only [Value.slice.injEq, Option.some.injEq, Addr.mk.injEq, and_true] at ee
            obtain ⟨⟨rfl, rfl⟩, hq1, hq2⟩ := ee
            clear hq1 hq2
            obtain ⟨r0, r1, r2, r3⟩ := hcP xn (by rw [HPL.out]; omega)
            obtain ⟨c, hc⟩ : ∃ c, P.getD xn C4.zero = c := ⟨_, rfl⟩
            rw [hc] at r0 r1 r2 r3
            simp only [Nat.zero_add] at r0 r1 r2 r3
            have HC := Lib.hid hc
            obtain ⟨hx0, hx1⟩ := hxr
            have hkW : (k : Int) < (W : Int) := by omega
            have hxn2 : xn < pn := by omega
            clear hcP hc hui hxn hxe hXl
            go_upto_region 23 with (fail)
            have hnw := heap_alloc_new wr (.cells #[.int .u16 c.r, .int .u16 c.g, .int .u16 c.b, .int .u16 c.a] 38)
            have hB4 : Below wr.heap.size wr (wr.alloc (.cells #[.int .u16 c.r, .int .u16 c.g, .int .u16 c.b, .int .u16 c.a] 38)) := (Below.refl _ _).alloc (Nat.le_refl _) _
            obtain ⟨nb, hnb⟩ : ∃ b, wr.heap.size = b := ⟨_, rfl⟩
            rw [hnb] at hnw ⊢
            have HPK4 := Lib.hid (HPK.out.below hB4)
            have hnp : nb ≠ pb := by have := block_lt HPK.out.row; omega
            clear hB4 hnb r0 r1 r2 r3 hcx HPK
            generalize wr.alloc (.cells #[.int .u16 c.r, .int .u16 c.g, .int .u16 c.b, .int .u16 c.a] 38) = w4 at *
            by_cases hxz : (xn : Int) = z
            · have hne : ((xn : Int) != z) = false := by simp [hxz]
              have HXZ := Lib.hid hxz
              clear hxz
              go_wp2_with fail
              go_roundg (W - (k + 1))
              case measure => have := Hgk.out; omega
              case rel => exact ⟨k + 1, by omega, rfl, by go_num, ⟨by rw [← Nat.add_assoc, picMix_clear P HXL.out (HXE.out.trans HXZ.out)]; exact HPK4.out.row, HPK4.out.keep⟩⟩
            · have hne : ((xn : Int) != z) = true := by simp [hxz]
              have HXZ := Lib.hid hxz
              clear hxz
              have k0 := (cell_of_row _ _ 0 _ _ (0, 0) (HPK4.out.block HI3.out hne4)).trans (show _ = some (Value.int .i64 (W : Nat)) from rfl)
              have k2 := (cell_of_row _ _ 2 _ _ (0, 0) (HPK4.out.block HI3.out hne4)).trans (show _ = some (Value.slice (some ⟨pb, 0, none⟩) (4 * N) (4 * N)) from rfl)
              have t0 := (cell_of_row w4 _ 0 _ _ (0, 0) hnw).trans (show _ = some (Value.int .u16 c.r) from rfl)
              have t1 := (cell_of_row w4 _ 1 _ _ (0, 0) hnw).trans (show _ = some (Value.int .u16 c.g) from rfl)
              have t2 := (cell_of_row w4 _ 2 _ _ (0, 0) hnw).trans (show _ = some (Value.int .u16 c.b) from rfl)
              have t3 := (cell_of_row w4 _ 3 _ _ (0, 0) hnw).trans (show _ = some (Value.int .u16 c.a) from rfl)
              have hm1 : IntKind.i64.wrap ((i : Int) * (W : Int)) = (r : Int) := by
                rw [show (i : Int) * (W : Int) = (r : Int) by rw [← HR.out]; simp]
                exact IntWalk.i64_in _ (by omega)
              clear hnw
              obtain ⟨q, hq⟩ : ∃ q, 4 * (r + k) = q := ⟨_, rfl⟩
              have hq4 : q + 4 ≤ 4 * N := by omega
              have HQ := Lib.hid hq
              have hN4 : 4 * N ≤ 262144 := by omega
              have hrk : r + k ≤ 65536 := by omega
              have hi5 : i ≤ 4096 := by omega
              have hw1 : IntKind.i64.wrap (i : Int) = (i : Int) := IntWalk.i64_in _ (by omega)
              have hw2 : IntKind.i64.wrap (r : Int) = (r : Int) := IntWalk.i64_in _ (by omega)
              have hw3 : IntKind.i64.wrap ((r : Int) + (k : Int)) = (r : Int) + (k : Int) := IntWalk.i64_in _ (by omega)
              have hw4 : IntKind.i64.wrap (4 * ((r : Int) + (k : Int))) = (q : Int) := by
                rw [show 4 * ((r : Int) + (k : Int)) = (q : Int) by omega]
                exact IntWalk.i64_in _ (by omega)
              have hw5 : (q : Int) ≤ 4 * (N : Int) := by omega
              have hw6 : ¬ 4 * N = q := by omega
              clear hq
              go_upto_region 24 with (fail)
              refine wp_region_any (by kernel_rfl) ?_
              refine wpAny_laid_tails (D := fun i => ([138, 139, 140, 141, 142, 143, 144, 145, 146, 147, 148, 149, 150, 151, 152, 153, 154, 155, 156, 157, 158, 159, 160] : List Nat).getD i 0)
                (R := fun rj v w' => match rj with
                  | 0 => v = .pointer (some ⟨mb, 2, none⟩)
                  | 1 => v = .slice (some ⟨pb, 0, none⟩) (4 * N) (4 * N)
                  | 2 => v = .int .i64 0
                  | 3 => v = .int .i64 (i : Nat)
                  | 4 => v = .int .i64 (i : Nat)
                  | 5 => v = .pointer (some ⟨mb, 0, none⟩)
                  | 6 => v = .int .i64 (W : Nat)
                  | 7 => v = .int .i64 (r : Nat)
                  | 8 => v = .int .i64 0
                  | 9 => v = .int .i64 (r : Nat)
                  | 10 => v = .int .i64 (k : Nat)
                  | 11 => v = .int .i64 (r + k : Nat)
                  | 12 => v = .int .i64 (q : Nat)
                  | 13 => v = .slice (some ⟨pb, q, none⟩) (4 * N - q) (4 * N - q)
                  | 14 => v = .pointer (some ⟨nb, 0, none⟩)
                  | 15 => v = .int .u16 c.r
                  | 16 => v = .pointer (some ⟨nb, 1, none⟩)
                  | 17 => v = .int .u16 c.g
                  | 18 => v = .pointer (some ⟨nb, 2, none⟩)
                  | 19 => v = .int .u16 c.b
                  | 20 => v = .pointer (some ⟨nb, 3, none⟩)
                  | 21 => v = .int .u16 c.a
                  | 22 => NewPix w4.heap.size c v w'
                  | _ => True)
                (S := fun a' w' => (a'.tmps[5]? = some (.pointer (some ⟨mb, 0, none⟩)) ∧ a'.tmps[8]? = some (.int .i64 0) ∧ a'.tmps[9]? = some (.int .i64 0) ∧ a'.tmps[19]? = some (.int .i64 (i : Nat)) ∧ a'.tmps[20]? = some (.int .i64 (k : Nat)) ∧ a'.tmps[22]? = some (.pointer (some ⟨nb, 0, none⟩))) ∧ Below w4.heap.size w4 w')
                23 (by decide) (by kernel_rfl) (by decide +kernel) (by decide +kernel) (by decide +kernel) (by decide +kernel) (by kernel_rfl) ?_ ?_ ?_ ?_
              · intro i v u u' h hb
                match i, h with
                | 0, h => exact h
                | 1, h => exact h
                | 2, h => exact h
                | 3, h => exact h
                | 4, h => exact h
                | 5, h => exact h
                | 6, h => exact h
                | 7, h => exact h
                | 8, h => exact h
                | 9, h => exact h
                | 10, h => exact h
                | 11, h => exact h
                | 12, h => exact h
                | 13, h => exact h
                | 14, h => exact h
                | 15, h => exact h
                | 16, h => exact h
                | 17, h => exact h
                | 18, h => exact h
                | 19, h => exact h
                | 20, h => exact h
                | 21, h => exact h
                | 22, h => exact NewPix.below h hb
                | i + 23, _ => trivial
              · intro a' u hb _ hold
                exact ⟨⟨hold 5 (by decide), hold 8 (by decide), hold 9 (by decide), hold 19 (by decide), hold 20 (by decide), hold 22 (by decide)⟩, hb⟩
              · refine ⟨?_, ?_, ?_, ?_, ?_, ?_, ?_, ?_, ?_, ?_, ?_, ?_, ?_, ?_, ?_, ?_, ?_, ?_, ?_, ?_, ?_, ?_, ?_, trivial⟩
                · intro a' u hS hd
                  clear hd
                  have g0 := hS.1.1
                  go_simp
                  exact ⟨_, rfl, rfl, Below.refl _ _⟩
                · intro a' u hS hd
                  obtain ⟨_, e0, rfl⟩ := hd 0 (by kernel_rfl)
                  have f0 : a'.tmps[138]? = some _ := e0
                  clear e0
                  clear hd
                  have x0 := keep_cell hS.2 k2
                  go_simp
                  exact ⟨_, rfl, rfl, Below.refl _ _⟩
                · intro a' u hS hd
                  clear hd
                  have g0 := hS.1.2.2.1
                  go_simp
                  exact ⟨_, rfl, rfl, Below.refl _ _⟩
                · intro a' u hS hd
                  clear hd
                  have g0 := hS.1.2.2.2.1
                  go_simp
                  exact ⟨_, rfl, rfl, Below.refl _ _⟩
                · intro a' u hS hd
                  obtain ⟨_, e0, rfl⟩ := hd 2 (by kernel_rfl)
                  have f0 : a'.tmps[140]? = some _ := e0
                  clear e0
                  obtain ⟨_, e1, rfl⟩ := hd 3 (by kernel_rfl)
                  have f1 : a'.tmps[141]? = some _ := e1
                  clear e1
                  clear hd
                  go_simp
                  exact ⟨_, rfl, rfl, Below.refl _ _⟩
                · intro a' u hS hd
                  clear hd
                  have g0 := hS.1.1
                  go_simp
                  exact ⟨_, rfl, rfl, Below.refl _ _⟩
                · intro a' u hS hd
                  obtain ⟨_, e0, rfl⟩ := hd 5 (by kernel_rfl)
                  have f0 : a'.tmps[143]? = some _ := e0
                  clear e0
                  clear hd
                  have x0 := keep_cell hS.2 k0
                  go_simp
                  exact ⟨_, rfl, rfl, Below.refl _ _⟩
                · intro a' u hS hd
                  obtain ⟨_, e0, rfl⟩ := hd 4 (by kernel_rfl)
                  have f0 : a'.tmps[142]? = some _ := e0
                  clear e0
                  obtain ⟨_, e1, rfl⟩ := hd 6 (by kernel_rfl)
                  have f1 : a'.tmps[144]? = some _ := e1
                  clear e1
                  clear hd
                  go_simp
                  exact ⟨_, rfl, rfl, Below.refl _ _⟩
                · intro a' u hS hd
                  clear hd
                  have g0 := hS.1.2.1
                  go_simp
                  exact ⟨_, rfl, rfl, Below.refl _ _⟩
                · intro a' u hS hd
                  obtain ⟨_, e0, rfl⟩ := hd 7 (by kernel_rfl)
                  have f0 : a'.tmps[145]? = some _ := e0
                  clear e0
                  obtain ⟨_, e1, rfl⟩ := hd 8 (by kernel_rfl)
                  have f1 : a'.tmps[146]? = some _ := e1
                  clear e1
                  clear hd
                  go_simp
                  exact ⟨_, rfl, rfl, Below.refl _ _⟩
                · intro a' u hS hd
                  clear hd
                  have g0 := hS.1.2.2.2.2.1
                  go_simp
                  exact ⟨_, rfl, rfl, Below.refl _ _⟩
                · intro a' u hS hd
                  obtain ⟨_, e0, rfl⟩ := hd 9 (by kernel_rfl)
                  have f0 : a'.tmps[147]? = some _ := e0
                  clear e0
                  obtain ⟨_, e1, rfl⟩ := hd 10 (by kernel_rfl)
                  have f1 : a'.tmps[148]? = some _ := e1
                  clear e1
                  clear hd
                  go_simp
                  exact ⟨_, rfl, rfl, Below.refl _ _⟩
                · intro a' u hS hd
                  obtain ⟨_, e0, rfl⟩ := hd 11 (by kernel_rfl)
                  have f0 : a'.tmps[149]? = some _ := e0
                  clear e0
                  clear hd
                  go_simp
                  exact ⟨_, rfl, rfl, Below.refl _ _⟩
                · intro a' u hS hd
                  obtain ⟨_, e0, rfl⟩ := hd 1 (by kernel_rfl)
                  have f0 : a'.tmps[139]? = some _ := e0
                  clear e0
                  obtain ⟨_, e1, rfl⟩ := hd 12 (by kernel_rfl)
                  have f1 : a'.tmps[150]? = some _ := e1
                  clear e1
                  clear hd
                  go_simp
                  exact ⟨_, rfl, rfl, Below.refl _ _⟩
                · intro a' u hS hd
                  clear hd
                  have g0 := hS.1.2.2.2.2.2
                  go_simp
                  exact ⟨_, rfl, rfl, Below.refl _ _⟩
                · intro a' u hS hd
                  obtain ⟨_, e0, rfl⟩ := hd 14 (by kernel_rfl)
                  have f0 : a'.tmps[152]? = some _ := e0
                  clear e0
                  clear hd
                  have x0 := keep_cell hS.2 t0
                  go_simp
                  exact ⟨_, rfl, rfl, Below.refl _ _⟩
                · intro a' u hS hd
                  clear hd
                  have g0 := hS.1.2.2.2.2.2
                  go_simp
                  exact ⟨_, rfl, rfl, Below.refl _ _⟩
                · intro a' u hS hd
                  obtain ⟨_, e0, rfl⟩ := hd 16 (by kernel_rfl)
                  have f0 : a'.tmps[154]? = some _ := e0
                  clear e0
                  clear hd
                  have x0 := keep_cell hS.2 t1
                  go_simp
                  exact ⟨_, rfl, rfl, Below.refl _ _⟩
                · intro a' u hS hd
                  clear hd
                  have g0 := hS.1.2.2.2.2.2
                  go_simp
                  exact ⟨_, rfl, rfl, Below.refl _ _⟩
                · intro a' u hS hd
                  obtain ⟨_, e0, rfl⟩ := hd 18 (by kernel_rfl)
                  have f0 : a'.tmps[156]? = some _ := e0
                  clear e0
                  clear hd
                  have x0 := keep_cell hS.2 t2
                  go_simp
                  exact ⟨_, rfl, rfl, Below.refl _ _⟩
                · intro a' u hS hd
                  clear hd
                  have g0 := hS.1.2.2.2.2.2
                  go_simp
                  exact ⟨_, rfl, rfl, Below.refl _ _⟩
                · intro a' u hS hd
                  obtain ⟨_, e0, rfl⟩ := hd 20 (by kernel_rfl)
                  have f0 : a'.tmps[158]? = some _ := e0
                  clear e0
                  clear hd
                  have x0 := keep_cell hS.2 t3
                  go_simp
                  exact ⟨_, rfl, rfl, Below.refl _ _⟩
                · intro a' u hS hd
                  obtain ⟨_, e0, rfl⟩ := hd 15 (by kernel_rfl)
                  have f0 : a'.tmps[153]? = some _ := e0
                  clear e0
                  obtain ⟨_, e1, rfl⟩ := hd 17 (by kernel_rfl)
                  have f1 : a'.tmps[155]? = some _ := e1
                  clear e1
                  obtain ⟨_, e2, rfl⟩ := hd 19 (by kernel_rfl)
                  have f2 : a'.tmps[157]? = some _ := e2
                  clear e2
                  obtain ⟨_, e3, rfl⟩ := hd 21 (by kernel_rfl)
                  have f3 : a'.tmps[159]? = some _ := e3
                  clear e3
                  clear hd
                  go_simp
                  exact ⟨_, rfl, ⟨_, rfl, hS.2.size, heap_alloc_new _ _⟩, (Below.refl _ _).alloc (Nat.le_refl _) _⟩
              · intro a' u h
                obtain ⟨_, e151, rfl⟩ := h.new 13 (by decide) (by decide +kernel)
                replace e151 : a'.tmps[151]? = some (.slice (some ⟨pb, q, none⟩) (4 * N - q) (4 * N - q)) := e151
                obtain ⟨_, e160, bc, rfl, hbc, hcc⟩ := h.new 22 (by decide) (by decide +kernel)
                replace e160 : a'.tmps[160]? = some (.slice (some ⟨bc, 0, none⟩) 4 4) := e160
                have htm := tmps_set h.size [138, 139, 140, 141, 142, 143, 144, 145, 146, 147, 148, 149, 150, 151, 152, 153, 154, 155, 156, 157, 158, 159, 160] (fun d hd => h.old d (fun i hi e => hd (by rw [← e]; exact mem_getD hi)))
                have hdf : a'.defers = [{ target := Target.collected D, args := #[] }] := h.defers
                have hbu := h.below
                clear h
                obtain ⟨fx, hf⟩ : ∃ f : Nat → Value, (fun i => a'.tmps.getD i undef) = f := ⟨_, rfl⟩
                replace e151 : (fun i => a'.tmps.getD i undef) 151 = _ := slot_of e151
                replace e160 : (fun i => a'.tmps.getD i undef) 160 = _ := slot_of e160
                have hff : ∀ i, a'.tmps.getD i undef = fx i := fun i => congrFun hf i
                simp only [hff] at e151 e160
                simp only [List.foldl_cons, List.foldl_nil, hff] at htm
                obtain ⟨tmps, defers⟩ := a'
                dsimp only at hdf htm
                subst hdf
                rw [htm, e151, e160]
                clear htm hf hff e151 e160
                have hrow := (HPK4.out.below hbu).row
                have HPR := Lib.hid (hrow)
                have HBU := Lib.hid hbu
                have hcc4 := pix_news hcc
                have hfit : q + (c.list.map (Value.int .u16)).length ≤ ((picMix P z X (r + k)).map (Value.int .u16)).toArray.size := by
                  have h1 := picMix_length P z X (Nat.le_of_lt HXL.out)
                  rw [HX.out] at h1
                  simp only [List.size_toArray, List.length_map, h1]
                  exact hq4
                have hlen4 : (c.list.map (Value.int .u16)).length = Nat.min 4 (4 * N - q) := by
                  rw [show (c.list.map (Value.int .u16)).length = 4 from rfl]
                  exact (Nat.min_eq_left (by omega)).symm
                have HC4 := Lib.hid hcc4
                have HF4 := Lib.hid hfit
                have HL4 := Lib.hid hlen4
                clear hrow hcc4 hfit hlen4 hcc hbu k0 k2 t0 t1 t2 t3 hm1 hw1 hw2 hw3 hw4 hw5 hw6
                simp only [List.setIfInBounds_toArray, List.set_cons_succ, List.set_cons_zero]
                refine wpList_copy_own rfl (.tmp 151) (.tmp 160) 22 22 rfl 36 Tryz.underlying22 (by kernel_rfl) pb q (4 * N - q) (4 * N - q) ⟨bc, 0, none⟩ 4 4 rfl rfl _ 36 HPR.out (c.list.map (Value.int .u16)) HL4.out HC4.out HF4.out (by intro v hv; obtain ⟨y, _, rfl⟩ := List.mem_map.1 hv; rfl) ?_
                have hst := HPK4.out.step (c := c) HBU.out HXL.out (by rw [HXE.out]; exact HXZ.out) (by rw [HXE.out]; exact HC.out) q HQ.out.symm
                revert hst
                generalize u.setRow pb _ = w5
                intro hst
                have HST := Lib.hid hst
                clear hst
                go_wp2_with fail
                go_roundg (W - (k + 1))
                case measure => have := Hgk.out; omega
                case rel => exact ⟨k + 1, by omega, rfl, by go_num, HST.out⟩
          · obtain rfl : k = W := by omega
            have hri : i * k + k = (i + 1) * k := by rw [Nat.succ_mul]
            have HRI := Lib.hid hri
            clear hri
            go_wp2_with fail
            go_roundg (H - (i + 1))
            case measure => have := Hg.out; omega
            case rel => exact ⟨i + 1, by omega, rfl, by go_num, by rw [← HRI.out, HR.out]; exact HPK.out⟩
      · obtain rfl : i = H := by omega
        have hNi : i * W = N := by rw [HNN.out, Nat.mul_comm]
        rw [hNi] at HPI
        have hDp := hDpb
        clear hNi
        go_wp2_with fail
        have hK9 := HPI.out.block HK3.out hDp
        refine ⟨by simp, .inl ⟨_, _, rfl, run_takeDeferred hK9, ?_⟩⟩
        have hg9 := grownBy_putObj' wr D (.deferred none)
        have hpost : gr.PicPost g pb P z X w (.returned (.tuple #[])) (wr.putObj D (.deferred none)) := by
          refine ⟨⟨_, rfl⟩, ?_, ?_⟩
          · have h1 := HPI.out.row
            rw [← HX.out, picMix_all] at h1
            exact grown_block hg9 h1 (by intro e; exact hDp (Option.some.inj e).symm)
          · exact (Grown2.trans (Grown2.of HG3.out fun r e => .inl (Option.some.inj e).symm) (Grown2.of HPI.out.keep fun r e => .inr (.inl (Option.some.inj e).symm))).put (by have := HMB.out; omega) _
        exact ⟨_, results_none rfl _ _ _, hpost⟩
end Go.Proofs.YtioeifbobhdccaaGreatDoor
