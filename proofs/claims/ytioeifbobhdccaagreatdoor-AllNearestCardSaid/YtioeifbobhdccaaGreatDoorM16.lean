/- LZW: one code is written. -/
import Derived.Test.YtioeifbobhdccaaGreatDoorM12
namespace Go.Proofs.YtioeifbobhdccaaGreatDoor
open Go.RowKit Go.Sort Go.Maps

theorem ne_of_types {w : World} {i j : Nat} {a b : Array Value} {t u : TypeId} {z y : Nat × Nat} (h : w.heap[i]? = some (.cells a t z)) (k : w.heap[j]? = some (.cells b u y)) (ht : t ≠ u) : i ≠ j := by
  intro e
  subst e
  rw [h] at k
  injection k with k
  injection k with _ k _
  exact ht k
/-- what the writing of codes stands on -/
structure lz.Env (base : Nat) (w : World) (k : lz.K) (up : Bool) (g wb db nb kb : Nat) (L : List Bool) (v : Value) (width next : Nat) : Prop where
  wr : bt.Wr base w g up L v
  wbox : w.heap[wb]? = some (.cells #[.pointer (some ⟨g, 0, none⟩)] 154 (0, 0))
  dbox : w.heap[db]? = some (.cells #[.int .i64 (width : Nat)] 3 (0, 0))
  nbox : w.heap[nb]? = some (.cells #[.int .i64 (next : Nat)] 3 (0, 0))
  kbox : w.heap[kb]? = some (.cells #[.int .i64 (k.clear : Nat), .int .i64 (k.width : Nat), .bool up, .int .i64 (k.early : Nat)] 124 (0, 0))
  apart : db ≠ nb
  dlies : base ≤ db
  nlies : base ≤ nb
structure lz.Fr (base g db nb : Nat) (w w' : World) : Prop where
  below : Below base w w'
  others : ∀ j o, w.heap[j]? = some o → j ≠ g → j ≠ db → j ≠ nb → (∀ c fz, o ≠ .cells c 5 fz) → w'.heap[j]? = some o
theorem lz.Fr.refl (base g db nb : Nat) (w : World) : lz.Fr base g db nb w w := ⟨Below.refl _ _, fun _ _ h _ _ _ _ => h⟩
theorem lz.Fr.trans {base g db nb : Nat} {a b c : World} (h : lz.Fr base g db nb a b) (k : lz.Fr base g db nb b c) : lz.Fr base g db nb a c :=
  ⟨h.below.trans k.below, fun j o h0 h1 h2 h3 h4 => k.others j o (h.others j o h0 h1 h2 h3 h4) h1 h2 h3 h4⟩
theorem lz.fr_of {base g db nb : Nat} {a b : World} (h : bt.Fr base g a b) : lz.Fr base g db nb a b :=
  ⟨h.below, fun j o h0 h1 _ _ h4 => h.others j o h0 (by intro e; exact h1 (Option.some.inj e)) h4⟩
theorem lz.fr_set {base g db nb b : Nat} (w : World) (hb : base ≤ b) (hn : b = db ∨ b = nb) (u : Value) : lz.Fr base g db nb w (w.setCell ⟨b, 0, none⟩ u) := by
  refine ⟨(Below.refl _ _).setCell hb u, fun j o h0 _ h2 h3 _ => ?_⟩
  rw [Below.heap_setCell _ _ _ _ (by rcases hn with e | e <;> rw [e] <;> assumption)]
  exact h0
theorem lz.Env.step {base : Nat} {w w' : World} {k : lz.K} {up : Bool} {g wb db nb kb : Nat} {L L' : List Bool} {v v' : Value} {width next : Nat} (h : lz.Env base w k up g wb db nb kb L v width next)
    (hw : bt.Wr base w' g up L' v') (hf : bt.Fr base g w w') : lz.Env base w' k up g wb db nb kb L' v' width next := by
  have ne : ∀ {i : Nat} {a : Array Value} {t : TypeId} {z : Nat × Nat}, w.heap[i]? = some (.cells a t z) → t ≠ 171 → t ≠ 5 → w'.heap[i]? = some (.cells a t z) := by
    intro i a t z h1 h2 h3
    refine hf.others i _ h1 (by intro e; exact ne_of_types h1 h.wr.head h2 (Option.some.inj e)) ?_
    intro c fz e
    injection e with _ e _
    exact h3 e
  exact ⟨hw, ne h.wbox (by decide) (by decide), ne h.dbox (by decide) (by decide), ne h.nbox (by decide) (by decide), ne h.kbox (by decide) (by decide), h.apart, h.dlies, h.nlies⟩
theorem lz.wr_set {base : Nat} {w : World} {up : Bool} {g b : Nat} {L : List Bool} {v : Value} (h : bt.Wr base w g up L v) {a : Array Value} (hb : w.heap[b]? = some (.cells a 3 (0, 0))) (u : Value) : bt.Wr base (w.setCell ⟨b, 0, none⟩ u) g up L v := by
  refine ⟨h.lies, ?_, ownsRow_setCell_other h.row (a := ⟨b, 0, none⟩) ?_ u⟩
  · rw [Below.heap_setCell _ _ _ _ (ne_of_types h.head hb (by decide))]
    exact h.head
  · rcases row_apart h.row hb (by decide) with e | e
    · rw [e]; simp
    · exact e
theorem lz.Env.setNext {base : Nat} {w : World} {k : lz.K} {up : Bool} {g wb db nb kb : Nat} {L : List Bool} {v : Value} {width next : Nat} (h : lz.Env base w k up g wb db nb kb L v width next) (m : Nat) :
    lz.Env base (w.setCell ⟨nb, 0, none⟩ (.int .i64 (m : Nat))) k up g wb db nb kb L v width m := by
  refine ⟨lz.wr_set h.wr h.nbox _, ?_, ?_, heap_setCell_same w nb 0 _ _ _ h.nbox, ?_, h.apart, h.dlies, h.nlies⟩
  · rw [Below.heap_setCell _ _ _ _ (ne_of_types h.wbox h.nbox (by decide))]; exact h.wbox
  · rw [Below.heap_setCell _ _ _ _ h.apart]; exact h.dbox
  · rw [Below.heap_setCell _ _ _ _ (ne_of_types h.kbox h.nbox (by decide))]; exact h.kbox
theorem lz.Env.setWidth {base : Nat} {w : World} {k : lz.K} {up : Bool} {g wb db nb kb : Nat} {L : List Bool} {v : Value} {width next : Nat} (h : lz.Env base w k up g wb db nb kb L v width next) (m : Nat) :
    lz.Env base (w.setCell ⟨db, 0, none⟩ (.int .i64 (m : Nat))) k up g wb db nb kb L v m next := by
  refine ⟨lz.wr_set h.wr h.dbox _, ?_, heap_setCell_same w db 0 _ _ _ h.dbox, ?_, ?_, h.apart, h.dlies, h.nlies⟩
  · rw [Below.heap_setCell _ _ _ _ (ne_of_types h.wbox h.dbox (by decide))]; exact h.wbox
  · rw [Below.heap_setCell _ _ _ _ (Ne.symm h.apart)]; exact h.nbox
  · rw [Below.heap_setCell _ _ _ _ (ne_of_types h.kbox h.dbox (by decide))]; exact h.kbox

theorem lz.Env.below {base : Nat} {w w' : World} {k : lz.K} {up : Bool} {g wb db nb kb : Nat} {L : List Bool} {v : Value} {width next : Nat} (h : lz.Env base w k up g wb db nb kb L v width next) (hb : Below w.heap.size w w') (hs : base ≤ w.heap.size) :
    lz.Env base w' k up g wb db nb kb L v width next :=
  h.step (h.wr.below hb) ⟨hb.mono hs, fun _ _ hk _ _ => (hb.block _ (block_lt hk)).trans hk⟩
theorem lz.fr_below {base g db nb : Nat} {w w' : World} (hb : Below w.heap.size w w') (hs : base ≤ w.heap.size) : lz.Fr base g db nb w w' := ⟨hb.mono hs, fun _ _ hk _ _ _ _ => (hb.block _ (block_lt hk)).trans hk⟩
def lz.PutPost (base : Nat) (k : lz.K) (up : Bool) (g wb db nb kb : Nat) (L : List Bool) (width next : Nat) (w : World) (e : Ending) (w' : World) : Prop :=
  e = .returned (.tuple #[]) ∧ ∃ v', lz.Env base w' k up g wb db nb kb L v' width next ∧ lz.Fr base g db nb w w'
set_option maxRecDepth 100000 in
theorem packput_old {base : Nat} {w : World} {k : lz.K} {up : Bool} {g wb db nb kb : Nat} {L : List Bool} {v : Value} {width next : Nat} (h : lz.Env base w k up g wb db nb kb L v width next) (hb : base ≤ w.heap.size)
    (c : Nat) (hc : c < 4294967296) (hw : width ≤ 12) (hL : L.length + 32 ≤ 1099511627776) :
    Calls Tryz.prog 90 #[.int .i64 c, .bool false, .pointer (some ⟨wb, 0, none⟩), .pointer (some ⟨db, 0, none⟩), .pointer (some ⟨nb, 0, none⟩), .pointer (some ⟨kb, 0, none⟩)] w (lz.PutPost base k up g wb db nb kb (L ++ bt.bitsOf up c width) width next w) := by
  have c0 := (cell_of_row w _ 0 _ _ (0, 0) h.wbox).trans (show _ = some (Value.pointer (some ⟨g, 0, none⟩)) from rfl)
  have c1 := (cell_of_row w _ 0 _ _ (0, 0) h.dbox).trans (show _ = some (Value.int .i64 (width : Nat)) from rfl)
  have CP := Lib.hid (put_any h.wr hb c width hc (by omega) hL)
  have HE := Lib.hid h
  clear h
  go_enter Tryz.func90, Tryz.ntmps90
  go_wp2_with fail
  refine CP.out.mono ?_
  rintro e w2 ⟨rfl, v2, hw2, hf2⟩
  have HE2 := Lib.hid (HE.out.step hw2 hf2)
  have HF2 := Lib.hid hf2
  clear hw2 hf2 CP c0 c1
  go_wp2_with fail
  refine bodyPost_end (results_none rfl _ _ _) rfl ?_
  exact ⟨rfl, v2, HE2.out, lz.fr_of HF2.out⟩
set_option maxRecDepth 100000 in
theorem packput_new {base : Nat} {w : World} {k : lz.K} {up : Bool} {g wb db nb kb : Nat} {L : List Bool} {v : Value} {width next : Nat} (h : lz.Env base w k up g wb db nb kb L v width next) (hb : base ≤ w.heap.size)
    (c : Nat) (hc : c < 4294967296) (hw : width ≤ 12) (hn : next ≤ 4096) (hke : k.early ≤ 1) (hL : L.length + 32 ≤ 1099511627776) :
    Calls Tryz.prog 90 #[.int .i64 c, .bool true, .pointer (some ⟨wb, 0, none⟩), .pointer (some ⟨db, 0, none⟩), .pointer (some ⟨nb, 0, none⟩), .pointer (some ⟨kb, 0, none⟩)] w (lz.PutPost base k up g wb db nb kb (L ++ bt.bitsOf up c width) (lz.bump k (next + 1) width) (next + 1) w) := by
  have c0 := (cell_of_row w _ 0 _ _ (0, 0) h.wbox).trans (show _ = some (Value.pointer (some ⟨g, 0, none⟩)) from rfl)
  have c1 := (cell_of_row w _ 0 _ _ (0, 0) h.dbox).trans (show _ = some (Value.int .i64 (width : Nat)) from rfl)
  have CP := Lib.hid (put_any h.wr hb c width hc (by omega) hL)
  have HE := Lib.hid h
  clear h
  go_enter Tryz.func90, Tryz.ntmps90
  go_wp2_with fail
  refine CP.out.mono ?_
  rintro e w2 ⟨rfl, v2, hw2, hf2⟩
  have HE2 := Lib.hid (HE.out.step hw2 hf2)
  have HF2 := Lib.hid hf2
  clear hw2 hf2 CP c0 c1
  have c2 := (cell_of_row w2 _ 0 _ _ (0, 0) HE2.out.nbox).trans (show _ = some (Value.int .i64 (next : Nat)) from rfl)
  have f2 := frozen_of_row w2 _ 0 _ _ HE2.out.nbox
  go_wp2_with fail
  obtain ⟨N, hN⟩ : ∃ N, next + 1 = N := ⟨_, rfl⟩
  have en : ((next : Int) + 1) = (N : Int) := by omega
  rw [en, hN]
  have HE3 := Lib.hid (HE2.out.setNext N)
  have HF3 := Lib.hid ((lz.fr_of (db := db) (nb := nb) HF2.out).trans (lz.fr_set w2 HE2.out.nlies (.inr rfl) (.int .i64 (N : Int))))
  have HNN := Lib.hid hN
  clear c2 f2 en
  generalize w2.setCell ⟨nb, 0, none⟩ (.int .i64 (N : Int)) = w3 at *
  have c3 := (cell_of_row w3 _ 0 _ _ (0, 0) HE3.out.nbox).trans (show _ = some (Value.int .i64 (N : Int)) from rfl)
  have c4 := (cell_of_row w3 _ 0 _ _ (0, 0) HE3.out.dbox).trans (show _ = some (Value.int .i64 (width : Nat)) from rfl)
  have c5 := (cell_of_row w3 _ 3 _ _ (0, 0) HE3.out.kbox).trans (show _ = some (Value.int .i64 (k.early : Nat)) from rfl)
  clear hN
  have hpw : 2 ^ width ≤ 2 ^ 12 := Nat.pow_le_pow_right (by decide) hw
  have hpw1 : 1 ≤ 2 ^ width := Nat.one_le_two_pow
  obtain ⟨p2, hp2⟩ : ∃ p2, 2 ^ width = p2 := ⟨_, rfl⟩
  have p1 : IntKind.i64.wrap (2 ^ width) = (p2 : Int) := by
    have e1 : ((2 : Int) ^ width) = (p2 : Int) := by rw [← hp2]; simp
    rw [e1]
    exact IntWalk.i64_in _ (by omega)
  have hN4 : N ≤ 4097 := by have := HNN.out; omega
  obtain ⟨z, hz⟩ : ∃ z, p2 - k.early = z := ⟨_, rfl⟩
  have p3 : IntKind.i64.wrap ((p2 : Int) - (k.early : Int)) = (z : Int) := (IntWalk.i64_in _ (by omega)).trans (by omega)
  have HB : Hid (lz.bump k N width = if N = z ∧ width < 12 then width + 1 else width) := Lib.hid (by
    unfold lz.bump
    rw [hp2]
    have e : (N + k.early = p2) ↔ (N = z) := by omega
    simp only [e])
  clear hpw hpw1 hp2 hz
  by_cases hnz : N = z
  · have gz : ((N : Int) == (z : Int)) = true := by simp [hnz]
    by_cases h12 : width < 12
    · have g12 : decide ((width : Int) < 12) = true := decide_eq_true (by omega)
      have hb' : lz.bump k N width = width + 1 := by rw [HB.out, if_pos ⟨hnz, h12⟩]
      have HBB := Lib.hid hb'
      clear hnz hb' HB
      go_quiet (fail)
      have f4 := frozen_of_row w3 _ 0 _ _ HE3.out.dbox
      go_wp2_with fail
      refine bodyPost_end (results_none rfl _ _ _) rfl ?_
      have hs3 : base ≤ w3.heap.size := Nat.le_trans hb HF3.out.below.size
      have ew : ((width : Int) + 1) = ((width + 1 : Nat) : Int) := by omega
      rw [HNN.out, HBB.out, ew]
      have hq := below_drewN (Below.refl w3.heap.size w3) nq
      exact ⟨rfl, v2, (HE3.out.below hq hs3).setWidth (width + 1), (HF3.out.trans (lz.fr_below hq hs3)).trans (lz.fr_set _ HE3.out.dlies (.inl rfl) _)⟩
    · have g12 : decide ((width : Int) < 12) = false := decide_eq_false (by omega)
      have hb' : lz.bump k N width = width := by rw [HB.out, if_neg (by omega)]
      have HBB := Lib.hid hb'
      clear hnz hb' HB h12
      go_quiet (fail)
      go_wp2_with fail
      refine bodyPost_end (results_none rfl _ _ _) rfl ?_
      have hs3 : base ≤ w3.heap.size := Nat.le_trans hb HF3.out.below.size
      rw [HNN.out, HBB.out]
      have hq := below_drewN (Below.refl w3.heap.size w3) nq
      exact ⟨rfl, v2, HE3.out.below hq hs3, HF3.out.trans (lz.fr_below hq hs3)⟩
  · have gz : ((N : Int) == (z : Int)) = false := by simp; omega
    have hb' : lz.bump k N width = width := by rw [HB.out, if_neg (by omega)]
    have HBB := Lib.hid hb'
    clear hnz hb' HB
    go_quiet (fail)
    go_wp2_with fail
    refine bodyPost_end (results_none rfl _ _ _) rfl ?_
    have hs3 : base ≤ w3.heap.size := Nat.le_trans hb HF3.out.below.size
    rw [HNN.out, HBB.out]
    have hq := below_drewN (Below.refl w3.heap.size w3) nq
    exact ⟨rfl, v2, HE3.out.below hq hs3, HF3.out.trans (lz.fr_below hq hs3)⟩
end Go.Proofs.YtioeifbobhdccaaGreatDoor
