/- The written GIF as the reader goes through it: plain lists. -/
import Derived.Test.YtioeifbobhdccaaGreatDoorM30
import Derived.Test.YtioeifbobhdccaaGreatDoorM31
import Derived.Test.YtioeifbobhdccaaGreatDoorM33
import Derived.Test.YtioeifbobhdccaaGreatDoorM37
import Derived.Defers
import Derived.Recover
namespace Go.Proofs.YtioeifbobhdccaaGreatDoor
def decT (g : Bool) (n : Nat) (R : List Int) : List Int := if g then 33 :: (gifExt ((n : Int) - 1) ++ R) else R
def decL (W H sz : Nat) (P : List C4) (T : List Int) : List Int :=
  71 :: 73 :: 70 :: 56 :: 57 :: 97 :: (W : Int) % 256 :: (W : Int) / 256 :: (H : Int) % 256 :: (H : Int) / 256 :: (127 + (sz : Int)) :: 0 :: 0 :: (palBytes P (2 ^ sz) ++ T)
def pieces (d : List Int) : List (List Int) := (List.range ((d.length + 254) / 255)).map (subAt d)
theorem subs_blk (d : List Int) : subs d ((d.length + 254) / 255) = blkBytes (pieces d) := by
  unfold subs blkBytes pieces
  rw [List.flatMap_map]
theorem gifFile_form (W H sz : Nat) (g : Bool) (P0 : List C4) (d : List Int) :
    gifFile W H sz g P0 d = decL W H sz (encP g P0) (decT g (encP g P0).length (44 :: picBytes W H (max sz 2) (pieces d) [59])) := by
  unfold gifFile gifHead decL decT picBytes gifClear gifExt two
  rw [subs_blk]
  cases g <;> simp
theorem pieces_ok (d : List Int) : ∀ p ∈ pieces d, 1 ≤ p.length ∧ p.length ≤ 255 := by
  intro p hp
  obtain ⟨j, hj, rfl⟩ := List.mem_map.1 hp
  have hj := List.mem_range.1 hj
  unfold subAt
  rw [List.length_take, List.length_drop]
  omega
theorem range_flat (d : List Int) : ∀ k, ((List.range k).map (subAt d)).flatten = d.take (255 * k)
  | 0 => by simp
  | k + 1 => by
    rw [List.range_succ, List.map_append, List.flatten_append, range_flat d k]
    simp only [List.map_cons, List.map_nil, List.flatten_cons, List.flatten_nil, List.append_nil]
    unfold subAt
    rw [Nat.mul_succ, List.take_add]
theorem pieces_flat (d : List Int) : (pieces d).flatten = d := by
  unfold pieces
  rw [range_flat, List.take_of_length_le (by omega)]
/-- the colour that an entry of the file's palette tells -/
def palC (P : List C4) (i : Nat) : C4 := ⟨257 * (palB P i).getD 0 0, 257 * (palB P i).getD 1 0, 257 * (palB P i).getD 2 0, 65535⟩
theorem palB_length (P : List C4) (i : Nat) : (palB P i).length = 3 := rfl
theorem palBytes_get (P : List C4) (T : List Int) {m i j : Nat} (hi : i < m) (hj : j < 3) : (palBytes P m ++ T).getD (3 * i + j) 0 = (palB P i).getD j 0 := by
  induction m generalizing T with
  | zero => omega
  | succ m ih =>
    rw [palBytes_succ, List.append_assoc]
    rcases Nat.lt_or_ge i m with h | h
    · exact ih _ h
    · obtain rfl : i = m := by omega
      have hl := palBytes_length P i
      have hb := palB_length P i
      simp only [List.getD_eq_getElem?_getD]
      rw [List.getElem?_append_right (by omega), hl, Nat.add_sub_cancel_left, List.getElem?_append_left (by omega)]
theorem palRd_file (P : List C4) (T : List Int) (m : Nat) : palRd (palBytes P m ++ T) m = (List.range m).map (palC P) := by
  unfold palRd
  refine List.map_congr_left fun i hi => ?_
  have hi := List.mem_range.1 hi
  unfold palAt palC
  have h0 := palBytes_get P T hi (j := 0) (by omega)
  rw [Nat.add_zero] at h0
  rw [h0, palBytes_get P T hi (j := 1) (by omega), palBytes_get P T hi (j := 2) (by omega)]
end Go.Proofs.YtioeifbobhdccaaGreatDoor
/- gif.Decode's deferred closure, of a frame that returns. -/
namespace Go.Proofs.YtioeifbobhdccaaGreatDoor
open Go.RowKit Go.Sort Go.Shelf
set_option maxRecDepth 100000 in
theorem decode1_idle (p q : Addr) (w : World) :
    CallsD Tryz.prog 23 #[.pointer (some p), .pointer (some q)] .returning w fun e u' w' => e = .returned (.tuple #[]) ∧ u' = .returning ∧ w' = w := by
  refine callsD_of_wpS Tryz.func23 rfl fun c₀ cs hu => ?_
  conv => arg 2; whnf
  apply wpS_seq
  apply wpS_region
  simp [wpOpsS, go_sem, recoverD, hu, Tryz.ntmps23, Exit.thenS]
  refine wpS_of_wp ?_
  go_wp2_with fail
  cases c₀
  simp_all [bodyPostS, results, Tryz.results23]
end Go.Proofs.YtioeifbobhdccaaGreatDoor
/- gif.Decode at what gif.Encode writes. -/
namespace Go.Proofs.YtioeifbobhdccaaGreatDoor
open Go.RowKit Go.Sort Go.Shelf Go.Maps
attribute [local go_sem] Oper.semAt_some
def zeroRow (m : Nat) : Array Value := ((List.replicate m (0 : Int)).map (Value.int .u16)).toArray
theorem make_pix (m : Nat) (hm : m ≤ 16777216) (w : World) : (Instr.makeSlice 22 (.int .i64 (m : Int)) (.int .i64 (m : Int))).run Tryz.prog w = .ok (.slice (some ⟨w.heap.size, 0, none⟩) m m) (w.alloc (.cells (zeroRow m) 36)) := by
  obtain ⟨i0, hi, hz0, hz1, hz2⟩ := info_parts infoU16
  have := run_make_rowN (P := Tryz.prog) 22 36 i0 _ Tryz.underlying22 hi hz0 .i64 .i64 m m (Nat.le_refl _) (by rw [hz2]; omega) (by omega) w
  rw [hz1, Nat.mul_one] at this
  have e : madeCells (Value.int .u16 0).cells m = zeroRow m := by
    unfold zeroRow
    apply Array.toList_inj.1
    rw [show (Value.int .u16 0).cells = #[.int .u16 0] from rfl, toList_madeCells_one, List.map_replicate]
  rw [e] at this
  exact this
theorem conv_str {w : World} {a : Option Addr} {n cap : Nat} {l : List Int} (h : Sl .u8 w a n cap l) (hn : 0 < n) : (convert 26 9 (.slice a n cap)).run Tryz.prog w = .ok (.string (strOfNums l)) w := by
  obtain ⟨b, off, rfl, hc⟩ := h.cells hn
  exact run_convert_bytes_arg w 26 5 Tryz.underlying26 Tryz.underlying5 b off n cap l h.len hc 9 Tryz.underlying9
theorem results_row_cell {P : Program} {fn : Func} {p q : Tmp} {ty tz : TypeId} {k : IntKind} (h : fn.results = #[.cell p ty, .cell q tz]) (tmps : Array Value) (w : World) (g g' : Nat) (t : TypeId) (cs : Array Value) (fr : Nat × Nat) (d : TypeDesc) (v' : Value)
    (hp : tmps.getD p undef = .pointer (some ⟨g, 0, none⟩)) (hq : tmps.getD q undef = .pointer (some ⟨g', 0, none⟩)) (hg : w.heap[g]? = some (.cells cs t fr)) (c' : w.cell? ⟨g', 0, none⟩ = some v')
    (hu : P.underlying ty = some d) (hd : (match d with | .struct _ | .array _ _ => true | _ => false) = true) (hi : (P.info? ty).map (·.size) = some cs.size) (hz : P.underlying tz = some (.int k)) :
    (results fn tmps).run P w = .ok (.tuple #[.agg cs, v']) w := by
  have hp' : tmps[p]?.getD undef = .pointer (some ⟨g, 0, none⟩) := by simpa using hp
  have hq' : tmps[q]?.getD undef = .pointer (some ⟨g', 0, none⟩) := by simpa using hq
  have a2 : (isAgg tz).run P w = .ok false w := by
    unfold isAgg
    rw [Sem.run_bind, run_underlying hz w]
    rfl
  have a1 := run_loadVar_row w g t ty cs fr d hg hu hd hi
  simp [results, h, hp', hq', asAddr, a1]
  simp [go_sem, c', a2]
def gif.DecPost (W H N : Nat) (P : List C4) (z : Int) (X : List Int) (w : World) (e : Ending) (w' : World) : Prop :=
  ∃ pb, e = .returned (.tuple #[.agg #[.int .i64 (W : Nat), .int .i64 (H : Nat), .slice (some ⟨pb, 0, none⟩) (4 * N) (4 * N)], .int .i64 0]) ∧
    w'.heap[pb]? = some (.cells ((picPix P z X).map (Value.int .u16)).toArray 36 (0, 0)) ∧ w.heap.size ≤ pb ∧ Below w.heap.size w w'
def clearOf (g : Bool) (n : Nat) : Int := if g then (n : Int) - 1 else -1
set_option maxRecDepth 100000 in
set_option maxHeartbeats 3200000 in
theorem decode_any (b n cap W H sz zz N : Nat) (g : Bool) (P : List C4) (pcs : List (List Int)) (w : World)
    (h : Sl .u8 w (some ⟨b, 0, none⟩) n cap (decL W H sz P (decT g P.length (44 :: picBytes W H zz pcs [59])))) (hn : n ≤ 4194304) (hs : 1 ≤ sz ∧ sz ≤ 8) (hP : 1 ≤ P.length ∧ P.length ≤ 256)
    (hW : 1 ≤ W ∧ W ≤ 4096) (hH : 1 ≤ H ∧ H ≤ 4096) (hN : N = W * H) (hN6 : N ≤ 65536) (hz : 2 ≤ zz ∧ zz ≤ 8) (hps : ∀ p ∈ pcs, 1 ≤ p.length ∧ p.length ≤ 255)
    (T : List (Nat × Nat)) (X : List Int) (hT : lz.Tells (gifK zz) T X) (hX : X.length = N) (hdd : pcs.flatten = bt.bytes false (lz.bitsOfAll false T)) (hdn : pcs.flatten.length ≤ 1048576) (hXP : ∀ x ∈ X, 0 ≤ x ∧ x < ((2 ^ sz : Nat) : Int)) :
    Calls Tryz.prog 8 #[.slice (some ⟨b, 0, none⟩) n cap, .int .i64 (N : Nat)] w (gif.DecPost W H N ((List.range (2 ^ sz)).map (palC P)) (clearOf g P.length) X w) := by
  obtain ⟨m, hm⟩ : ∃ m, 2 ^ sz = m := ⟨_, rfl⟩
  have hm2 : 2 * 2 ^ (sz - 1) = m := by rw [← hm, ← Nat.pow_succ', Nat.succ_eq_add_one, Nat.sub_add_cancel hs.1]
  have hm8 : 2 ≤ m ∧ m ≤ 256 := by
    have h1 : 2 ^ sz ≤ 2 ^ 8 := Nat.pow_le_pow_right (by decide) hs.2
    have h2 : 2 ^ 1 ≤ 2 ^ sz := Nat.pow_le_pow_right (by decide) hs.1
    omega
  have hnl := h.len
  have hn13 : 13 + 3 * m + 1 ≤ n := by
    rw [← hnl]
    unfold decL decT
    simp only [List.length_cons, List.length_append, palBytes_length, hm]
    split <;> simp only [List.length_cons, List.length_append] <;> omega
  have hbw : b < w.heap.size := by
    obtain ⟨_, _, ee, hc⟩ := h.cells (by omega)
    simp only [Option.some.injEq, Addr.mk.injEq, and_true] at ee
    obtain ⟨rfl, rfl⟩ := ee
    exact block_lt_of_cell (hc 0 (by omega))
  have hmf : ∀ (fn : Fn) (first cap : Array Value) (w : World), (Instr.makeFunc fn first cap).run Tryz.prog w = .ok (.func fn first cap) w := fun _ _ _ _ => rfl
  have HS := Lib.hid h
  have HN := Lib.hid hN
  have HM := Lib.hid hm
  have HM2 := Lib.hid hm2
  have HPS := Lib.hid hps
  have HT := Lib.hid hT
  have HX := Lib.hid hX
  have HDD := Lib.hid hdd
  have HXP := Lib.hid hXP
  obtain ⟨hW1, hW6⟩ := hW
  obtain ⟨hH1, hH6⟩ := hH
  clear h hN hm hm2 hps hT hX hdd hXP hnl
  go_enter_defers Tryz.func8, Tryz.ntmps8
  go_upto_region 5 with (fail)
  obtain ⟨w0, hw0, k1, k2, k3, hs0, hB0⟩ := alloc3 w (.cells #[.int .i64 0, .int .i64 0, .slice none 0 0] 24) (.cells #[.int .i64 0] 27) (.cells #[.slice (some ⟨b, 0, none⟩) n cap] 61)
  rw [← hw0]
  clear hw0
  obtain ⟨rb, hrb⟩ : ∃ x, w.heap.size = x := ⟨_, rfl⟩
  have HRB := Lib.hid hrb
  have HB0 := Lib.hid hB0
  rw [hrb] at k1 k2 k3 hs0 ⊢
  have hA0 : gr.At w0 (rb + 1 + 1) b 0 n cap (decL W H sz P (decT g P.length (44 :: picBytes W H zz pcs [59]))) := ⟨k3, HS.out.below hB0, by omega⟩
  obtain ⟨R0, hR0⟩ : ∃ R, decT g P.length (44 :: picBytes W H zz pcs [59]) = R := ⟨_, rfl⟩
  rw [hR0] at hA0
  have HR0 := Lib.hid hR0
  have HA0 := Lib.hid hA0
  have K1 := Lib.hid k1
  have K2 := Lib.hid k2
  have hs0' := hs0
  clear k1 k2 k3 hB0 hA0 hR0 hrb HS
  go_wp2_with fail
  refine (grBytes_any (rb + 1 + 1) b 0 n cap 6 _ w0 HA0.out (by omega)).mono ?_
  rintro e w1 ⟨rfl, ⟨o1, ha1⟩, hg1, hs1⟩
  have kc := conv_str hs1 (by omega)
  rw [show strOfNums ((decL W H sz P R0).take 6) = ⟨#[71, 73, 70, 56, 57, 97]⟩ from rfl] at kc
  have HA1 := Lib.hid ha1
  have HG1 := Lib.hid hg1
  clear ha1 hg1 hs1 HA0
  go_wp2_with fail
  refine (grTwo_any (rb + 1 + 1) b o1 _ _ _ w1 HA1.out (by omega)).mono ?_
  rintro e w2 ⟨rfl, ⟨o2, ha2⟩, hg2⟩
  have eW : ((decL W H sz P R0).drop 6).getD 0 0 + 256 * ((decL W H sz P R0).drop 6).getD 1 0 = (W : Int) := by
    show (W : Int) % 256 + 256 * ((W : Int) / 256) = W
    omega
  rw [eW]
  have HA2 := Lib.hid ha2
  have HG2 := Lib.hid (HG1.out.trans hg2)
  clear ha2 hg2 HA1 HG1 kc eW
  go_wp2_with fail
  refine (grTwo_any (rb + 1 + 1) b o2 _ _ _ w2 HA2.out (by omega)).mono ?_
  rintro e w3 ⟨rfl, ⟨o3, ha3⟩, hg3⟩
  have eH : (((decL W H sz P R0).drop 6).drop 2).getD 0 0 + 256 * (((decL W H sz P R0).drop 6).drop 2).getD 1 0 = (H : Int) := by
    show (H : Int) % 256 + 256 * ((H : Int) / 256) = H
    omega
  rw [eH]
  have HA3 := Lib.hid ha3
  have HG3 := Lib.hid (HG2.out.trans hg3)
  clear ha3 hg3 HA2 HG2 eH
  go_wp2_with fail
  refine (grOne_any (rb + 1 + 1) b o3 _ _ _ w3 HA3.out (by omega)).mono ?_
  rintro e w4 ⟨rfl, ⟨o4, ha4⟩, hg4⟩
  obtain ⟨f, hf⟩ : ∃ f : Nat, 127 + sz = f := ⟨_, rfl⟩
  have eF : ((((decL W H sz P R0).drop 6).drop 2).drop 2).getD 0 0 = (f : Int) := by
    show 127 + (sz : Int) = (f : Int)
    omega
  rw [eF]
  have HA4 := Lib.hid ha4
  have HG4 := Lib.hid (HG3.out.trans hg4)
  clear ha4 hg4 HA3 HG3 eF
  go_wp2_with fail
  refine (grBytes_any (rb + 1 + 1) b o4 _ _ 2 _ w4 HA4.out (by omega)).mono ?_
  rintro e w5 ⟨rfl, ⟨o5, ha5⟩, hg5, _⟩
  rw [show (((((decL W H sz P R0).drop 6).drop 2).drop 2).drop 1).drop 2 = palBytes P (2 ^ sz) ++ R0 from rfl, HM.out] at ha5
  have HA5 := Lib.hid ha5
  have hg05 := HG4.out.trans hg5
  have HG5 := Lib.hid hg05
  have Q1 := Lib.hid (grown_block hg05 K1.out (by intro e; have := Option.some.inj e; omega))
  have Q2 := Lib.hid (grown_block hg05 K2.out (by intro e; have := Option.some.inj e; omega))
  have hs5 := hg05.size
  have hd1 : decide ((W : Int) < 1) = false := decide_eq_false (by omega)
  have hd2 : decide ((H : Int) < 1) = false := decide_eq_false (by omega)
  have hf3 : f &&& 128 = 128 ∧ f &&& 7 = sz - 1 := by
    have : sz = 1 ∨ sz = 2 ∨ sz = 3 ∨ sz = 4 ∨ sz = 5 ∨ sz = 6 ∨ sz = 7 ∨ sz = 8 := by omega
    rw [← hf]
    rcases this with rfl | rfl | rfl | rfl | rfl | rfl | rfl | rfl <;> exact ⟨rfl, rfl⟩
  have hb128 : bits .and .i64 (f : Int) 128 = 128 := by
    have := gr.i64_and f 128 (by omega) (by omega)
    rw [hf3.1] at this
    exact this
  have hn5 : 3 * m + 1 ≤ n - 6 - 2 - 2 - 1 - 2 := by omega
  have HF := Lib.hid hf
  have HF3 := Lib.hid hf3.2
  clear ha5 hg5 hg05 HA4 HG4 K1 K2 hf hf3
  go_wp2_with fail
  refine (grPalette_any (rb + 1 + 1) b o5 _ _ f (sz - 1) m _ w5 HA5.out (by have := HF.out; omega) HF3.out HM2.out (by omega)).mono ?_
  rintro e w6 ⟨vp, rfl, hvp, ⟨o6, ha6⟩, hg6⟩
  rw [palRd_file] at hvp
  rw [List.drop_left' (palBytes_length P m)] at ha6
  obtain ⟨P1, hP1⟩ : ∃ Q, (List.range m).map (palC P) = Q := ⟨_, rfl⟩
  rw [hP1] at hvp
  have hP1l : P1.length = m := by rw [← hP1]; simp
  have HP1 := Lib.hid hP1
  obtain ⟨qb, qc, e9, _⟩ := own_form hvp (by omega)
  rw [hP1l] at e9
  subst e9
  have HVP := Lib.hid hvp
  have HA6 := Lib.hid ha6
  have HG6 := Lib.hid (HG5.out.trans hg6)
  have Q1' := Lib.hid (grown_block hg6 Q1.out (by intro e; have := Option.some.inj e; omega))
  have Q2' := Lib.hid (grown_block hg6 Q2.out (by intro e; have := Option.some.inj e; omega))
  have hs6 := hg6.size
  have HP1L := Lib.hid hP1l
  have hqb := (World.ownsRow.lt hvp qb rfl).1
  clear hvp ha6 hg6 HA5 HG5 Q1 Q2 hd1 hd2 hb128 hP1 hP1l
  go_upto_region 15 with (fail)
  have hWH : IntKind.i64.wrap ((W : Int) * (H : Int)) = (N : Int) := by
    rw [show (W : Int) * (H : Int) = (N : Int) by rw [HN.out]; simp]
    exact IntWalk.i64_in _ (by omega)
  go_cut [65] from 54 to 91 (fun s65 wx => s65 = .bool false ∧ w6 = wx)
  case first =>
    have hd5 : (N : Int) ≤ 65536 := by omega
    go_wp2_with fail
    all_goals
      go_meet
      first
        | exact ⟨rfl, rfl⟩
        | exact ⟨congrArg Value.bool (by simp; omega), rfl⟩
        | exact ⟨by simp; omega, rfl⟩
  case rest =>
    obtain ⟨rfl, rfl⟩ := hcut
    obtain ⟨q, hq⟩ : ∃ q, 4 * N = q := ⟨_, rfl⟩
    have hq6 : q ≤ 262144 := by omega
    have hmk := make_pix q (by omega)
    have hw4 : IntKind.i64.wrap (4 * (W : Int) * (H : Int)) = (q : Int) := by
      rw [show 4 * (W : Int) * (H : Int) = (q : Int) by rw [Int.mul_assoc, show (W : Int) * (H : Int) = (N : Int) by rw [HN.out]; simp]; omega]
      exact IntWalk.i64_in _ (by omega)
    have hB7 : Below w6.heap.size w6 (w6.alloc (.cells (zeroRow q) 36)) := (Below.refl _ _).alloc (Nat.le_refl _) _
    have r1 := (hB7.block _ (block_lt Q1'.out)).trans Q1'.out
    have R1 := Lib.hid r1
    have HQ := Lib.hid hq
    have HB7 := Lib.hid hB7
    clear hq r1 hB7 hWH
    go_upto_region 18 with (with_reducible refine wpList_store_row rfl 24 _ _ rfl rb _ rfl rfl 24 _ R1.out (imgSize3 _ _ _) (imgSz _ _ _ _ _ _) (imgOne _ _ _ _ _) ?_)
    obtain ⟨pb, hpb⟩ : ∃ x, w6.heap.size = x := ⟨_, rfl⟩
    rw [hpb]
    have hz0 : (w6.alloc (.cells (zeroRow q) 36)).heap[w6.heap.size]? = some (.cells (zeroRow q) 36 (0, 0)) := heap_alloc_new _ _
    rw [hpb] at hz0
    obtain ⟨w7, hw7⟩ : ∃ x, (w6.alloc (.cells (zeroRow q) 36)).setRow rb #[.int .i64 (W : Nat), .int .i64 (H : Nat), .slice (some ⟨pb, 0, none⟩) q q] = x := ⟨_, rfl⟩
    have hg7 := grownBy_setRow (w6.alloc (.cells (zeroRow q) 36)) rb #[.int .i64 (W : Nat), .int .i64 (H : Nat), .slice (some ⟨pb, 0, none⟩) q q]
    have hI7 : ((w6.alloc (.cells (zeroRow q) 36)).setRow rb #[.int .i64 (W : Nat), .int .i64 (H : Nat), .slice (some ⟨pb, 0, none⟩) q q]).heap[rb]? = some (.cells #[.int .i64 (W : Nat), .int .i64 (H : Nat), .slice (some ⟨pb, 0, none⟩) q q] 24 (0, 0)) := setRow_heap _ _ _ _ _ _ R1.out
    rw [hw7] at hg7 hI7 ⊢
    have hrp : rb + 1 + 1 < pb := by omega
    have hz7 := grown_block hg7 hz0 (by intro e; have := Option.some.inj e; omega)
    have he7 := grown_block hg7 ((HB7.out.block _ (block_lt Q2'.out)).trans Q2'.out) (by intro e; have := Option.some.inj e; omega)
    have hv7 : OwnC w5.heap.size w7 (.slice (some ⟨qb, 0, none⟩) m qc) P1 := World.ownsRow.kept (ownsRow_below HVP.out HB7.out) hg7 (.inr (by intro e; have : qb = rb := Option.some.inj e; omega))
    have hG7 : w6.grownBy w7 (some rb) := (grown_some HB7.out).trans hg7
    have hA7 : gr.At w7 (rb + 1 + 1) b o6 _ _ R0 := HA6.out.kept (hG7.block _ (by omega) (by intro e; have := Option.some.inj e; omega)) (hG7.block _ (by have := HRB.out; omega) (by intro e; have := Option.some.inj e; have := HRB.out; omega))
    have hB7w : Below w.heap.size w w7 := by
      have h1 := HB0.out.grown HG6.out HB0.out.size (fun k e => by cases e; have := HRB.out; omega)
      exact h1.grown hG7 h1.size (fun k e => by cases e; have := HRB.out; omega)
    have hs7 := hG7.size
    have HI7 := Lib.hid hI7
    have HZ7 := Lib.hid hz7
    have HE7 := Lib.hid he7
    have HV7 := Lib.hid hv7
    have HA7 := Lib.hid hA7
    have HB7w := Lib.hid hB7w
    have HPB := Lib.hid hpb
    clear hz0 hw7 hg7 hI7 hz7 he7 hv7 hG7 hA7 hB7w hmk hw4 HB7 R1 Q1' Q2' HA6 HG6 HVP HB0 hpb
    go_wp2_with fail
    go_loopg [12] (if g then 1 else 0) (fun gk s12 wr => ∃ (gf : Bool) (off n' cap' : Nat), gk = (if gf then 1 else 0) ∧ s12 = .int .i64 (if gf then -1 else clearOf g P.length) ∧ (gf = true → g = true) ∧ gr.At wr (rb + 1 + 1) b off n' cap' (decT gf P.length (44 :: picBytes W H zz pcs [59])) ∧ w7.grownBy wr (some (rb + 1 + 1)))
    case atStart =>
      refine ⟨g, o6, _, _, rfl, ?_, fun h => h, by rw [HR0.out]; exact HA7.out, ⟨rfl, rfl, rfl, Nat.le_refl _, fun _ _ _ => rfl⟩⟩
      cases g <;> rfl
    case round =>
      obtain ⟨gf, off8, n8, cap8, hgk, rfl, hgg, ha8, hg8⟩ := hrel
      have Hg := Lib.hid hgk
      have HGG := Lib.hid hgg
      have HA8 := Lib.hid ha8
      have HG8 := Lib.hid hg8
      have hs8 := hg8.size
      clear hgk hgg ha8 hg8 HA7
      have hn8 : 1 ≤ n8 := by
        rw [← HA8.out.data.len]
        unfold decT
        split <;> simp
      cases gf with
      | true =>
        have hgt := HGG.out rfl
        have KO := Lib.hid (grOne_any (rb + 1 + 1) b off8 n8 cap8 _ wr HA8.out hn8)
        have e1 : (decT true P.length (44 :: picBytes W H zz pcs [59])).getD 0 0 = 33 := rfl
        have e2 : (decT true P.length (44 :: picBytes W H zz pcs [59])).drop 1 = gifExt ((P.length : Int) - 1) ++ (44 :: picBytes W H zz pcs [59]) := rfl
        have E1 := Lib.hid e1
        have E2 := Lib.hid e2
        clear e1 e2
        go_wp2_with fail
        refine KO.out.mono ?_
        rintro e w9 ⟨rfl, ⟨o9, ha9⟩, hg9⟩
        rw [E1.out]
        rw [E2.out] at ha9
        have HA9 := Lib.hid ha9
        have HG9 := Lib.hid hg9
        clear ha9 hg9
        go_wp2_with fail
        refine (grExt_any (rb + 1 + 1) b o9 _ _ ((P.length : Int) - 1) _ w9 HA9.out (by omega) (-1)).mono ?_
        rintro e w10 ⟨rfl, ⟨o10, n10, cap10, ha10⟩, hg10⟩
        have HA10 := Lib.hid ha10
        have HG10 := Lib.hid ((HG8.out.trans HG9.out).trans hg10)
        have HGT := Lib.hid hgt
        clear ha10 hg10 hgt
        go_wp2_with fail
        go_roundg 0
        case measure =>
          have h1 := Hg.out
          simp at h1
          omega
        case rel => exact ⟨false, o10, n10, cap10, rfl, by rw [HGT.out]; rfl, (fun h => by cases h), HA10.out, HG10.out⟩
      | false =>
        have KO := Lib.hid (grOne_any (rb + 1 + 1) b off8 n8 cap8 _ wr HA8.out hn8)
        have e1 : (decT false P.length (44 :: picBytes W H zz pcs [59])).getD 0 0 = 44 := rfl
        have e2 : (decT false P.length (44 :: picBytes W H zz pcs [59])).drop 1 = picBytes W H zz pcs [59] := rfl
        have E1 := Lib.hid e1
        have E2 := Lib.hid e2
        clear e1 e2
        go_wp2_with fail
        refine KO.out.mono ?_
        rintro e w9 ⟨rfl, ⟨o9, ha9⟩, hg9⟩
        rw [E1.out]
        rw [E2.out] at ha9
        have HA9 := Lib.hid ha9
        have hg79 := HG8.out.trans hg9
        have HG9 := Lib.hid hg79
        have HI9 := Lib.hid (grown_block hg79 HI7.out (by intro e; have := Option.some.inj e; omega))
        have HE9 := Lib.hid (grown_block hg79 HE7.out (by intro e; have := Option.some.inj e; omega))
        have hz9 := grown_block hg79 HZ7.out (by intro e; have := Option.some.inj e; omega)
        rw [← HQ.out] at hz9
        have hv9 : OwnC w5.heap.size w9 (.slice (some ⟨qb, 0, none⟩) m qc) P1 := World.ownsRow.kept HV7.out hg79 (.inr (by intro e; have : qb = rb + 1 + 1 := Option.some.inj e; omega))
        have hxp := HXP.out
        rw [HM.out] at hxp
        have KP := Lib.hid (grPic_any (rb + 1 + 1) b o9 _ _ W H zz N pcs [59] w9 HA9.out ⟨hW1, hW6⟩ ⟨hH1, hH6⟩ HN.out hN6 hz HPS.out T X HT.out HX.out HDD.out hdn P1 w5.heap.size qb m qc hv9 HP1L.out (by omega) hxp (by omega) pb hz9 (by omega) (clearOf g P.length))
        have hs9 := hg79.size
        clear ha9 hg9 hg79 hz9 hv9 hxp
        go_wp2_with (with_reducible refine wpList_load_row rfl 24 _ rfl rb rfl 24 _ (0, 0) _ HI9.out Tryz.underlying24 rfl (imgSize3 _ _ _) ?_)
        rw [HQ.out] at KP
        refine KP.out.mono ?_
        rintro e w10 ⟨⟨v10, rfl⟩, hp10, hg10⟩
        have HP10 := Lib.hid hp10
        have HI10 := Lib.hid ((hg10.block rb (by omega) (by omega) (by omega)).trans HI9.out)
        have HE10 := Lib.hid ((hg10.block (rb + 1) (by omega) (by omega) (by omega)).trans HE9.out)
        have HG10 := Lib.hid hg10
        have hg11 := grownBy_setRow w10 rb #[.int .i64 (W : Nat), .int .i64 (H : Nat), .slice (some ⟨pb, 0, none⟩) q q]
        have HI11 : Hid ((w10.setRow rb #[.int .i64 (W : Nat), .int .i64 (H : Nat), .slice (some ⟨pb, 0, none⟩) q q]).heap[rb]? = some (.cells #[.int .i64 (W : Nat), .int .i64 (H : Nat), .slice (some ⟨pb, 0, none⟩) q q] 24 (0, 0))) := Lib.hid (setRow_heap _ _ _ _ _ _ HI10.out)
        have he11 := grown_block hg11 HE10.out (by intro e; have := Option.some.inj e; omega)
        have HE11 := Lib.hid he11
        have HG11 := Lib.hid hg11
        have ce := (cell_of_row _ _ 0 _ _ (0, 0) he11).trans (show _ = some (Value.int .i64 0) from rfl)
        have fe := frozen_of_row _ _ 0 _ _ he11
        clear hp10 hg10 KP he11 hg11
        go_wp2_with (first
          | (with_reducible refine wpList_load_row rfl 24 _ rfl rb rfl 24 _ (0, 0) _ HI10.out Tryz.underlying24 rfl (imgSize3 _ _ _) ?_)
          | (with_reducible refine wpList_store_row rfl 24 _ _ rfl rb _ rfl rfl 24 _ HI10.out (imgSize3 _ _ _) (imgSz _ _ _ _ _ _) (imgOne _ _ _ _ _) ?_))
        refine leaves_cons (f := 23) (args := #[.pointer (some ⟨rb, 0, none⟩), .pointer (some ⟨rb + 1, 0, none⟩)]) (by simp) (by simp [go_sem]) ?_
        refine (decode1_idle ⟨rb, 0, none⟩ ⟨rb + 1, 0, none⟩ _).mono ?_
        rintro e u' w12 ⟨rfl, rfl, rfl⟩
        have hg12 := grownBy_setCell3 (w10.setRow rb #[.int .i64 (W : Nat), .int .i64 (H : Nat), .slice (some ⟨pb, 0, none⟩) q q]) (rb + 1) 0 (.int .i64 0)
        have hI12 := grown_block hg12 HI11.out (by intro e; have := Option.some.inj e; omega)
        have he12 := heap_setCell_same (w10.setRow rb #[.int .i64 (W : Nat), .int .i64 (H : Nat), .slice (some ⟨pb, 0, none⟩) q q]) (rb + 1) 0 _ _ (.int .i64 0) HE11.out
        have hc12 := (cell_of_row _ _ 0 _ _ (0, 0) he12).trans (show _ = some (Value.int .i64 0) from rfl)
        have hp12 := grown_block hg12 (grown_block HG11.out HP10.out (by intro e; have := Option.some.inj e; omega)) (by intro e; have := Option.some.inj e; omega)
        have hbl : Below w.heap.size w ((w10.setRow rb #[.int .i64 (W : Nat), .int .i64 (H : Nat), .slice (some ⟨pb, 0, none⟩) q q]).setCell ⟨rb + 1, 0, none⟩ (.int .i64 0)) := by
          have h9 := HB7w.out.grown HG9.out HB7w.out.size (fun k e => by cases e; have := HRB.out; omega)
          have h10 : Below w.heap.size w w10 := h9.trans ⟨HG10.out.os, HG10.out.tape, HG10.out.output, HG10.out.size, fun k hk => HG10.out.block k (by have := h9.size; omega) (by have := HRB.out; omega) (by have := HRB.out; omega)⟩
          have h11 := h10.grown HG11.out h10.size (fun k e => by cases e; have := HRB.out; omega)
          exact h11.grown hg12 h11.size (fun k e => by cases e; have := HRB.out; omega)
        have hpost : gif.DecPost W H N ((List.range (2 ^ sz)).map (palC P)) (clearOf g P.length) X w (.returned (.tuple #[.agg #[.int .i64 (W : Nat), .int .i64 (H : Nat), .slice (some ⟨pb, 0, none⟩) q q], .int .i64 0])) ((w10.setRow rb #[.int .i64 (W : Nat), .int .i64 (H : Nat), .slice (some ⟨pb, 0, none⟩) q q]).setCell ⟨rb + 1, 0, none⟩ (.int .i64 0)) := by
          refine ⟨pb, by rw [HQ.out], ?_, by have := HRB.out; omega, hbl⟩
          rw [HM.out, HP1.out]
          exact hp12
        exact ⟨_, results_row_cell (p := 4) (q := 5) rfl _ _ rb (rb + 1) 24 _ (0, 0) _ _ rfl rfl hI12 hc12 Tryz.underlying24 rfl imgSize Tryz.underlying27, hpost⟩
end Go.Proofs.YtioeifbobhdccaaGreatDoor
