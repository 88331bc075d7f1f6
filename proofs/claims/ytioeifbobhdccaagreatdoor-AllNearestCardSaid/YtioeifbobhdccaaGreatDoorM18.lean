/- LZW as GIF has it: the writer. -/
import Derived.Test.YtioeifbobhdccaaGreatDoorM17
import Derived.Deep.MidRow
import Derived.Laws.OwnMore
namespace Go.Proofs.YtioeifbobhdccaaGreatDoor
open Go.RowKit Go.Sort

def gifK (z : Nat) : lz.K := ⟨2 ^ z, z + 1, 0⟩
theorem gifK_good {z : Nat} (h2 : 2 ≤ z) (h8 : z ≤ 8) : (gifK z).Good := by
  have : z = 2 ∨ z = 3 ∨ z = 4 ∨ z = 5 ∨ z = 6 ∨ z = 7 ∨ z = 8 := by omega
  rcases this with e | e | e | e | e | e | e <;> subst e <;> exact ⟨by decide, by decide, by decide, by decide, by decide, by decide⟩
theorem kindSize : (Tryz.prog.info? 124).map (·.size) = some 4 := by kernel_rfl
theorem kindSize4 (a b c d : Value) : (Tryz.prog.info? 124).map (·.size) = some (#[a, b, c, d] : Array Value).size := kindSize
theorem kindOne (x y w : Int) (u : Bool) : (#[.int .i64 x, .int .i64 y, .bool u, .int .i64 w] : Array Value).all (·.oneCell') = true := by simp [Value.oneCell']
def KindPost (z : Nat) (w : World) (e : Ending) (w' : World) : Prop := e = .returned (.agg #[.int .i64 ((gifK z).clear : Nat), .int .i64 ((gifK z).width : Nat), .bool false, .int .i64 ((gifK z).early : Nat)]) ∧ Below w.heap.size w w'
set_option maxRecDepth 100000 in
theorem gif_any (z : Nat) (h2 : 2 ≤ z) (h8 : z ≤ 8) (w : World) : Calls Tryz.prog 59 #[.int .i64 z] w (KindPost z w) := by
  obtain ⟨p2, hp⟩ : ∃ p2, 2 ^ z = p2 := ⟨_, rfl⟩
  have hle : p2 ≤ 256 := by
    have : 2 ^ z ≤ 2 ^ 8 := Nat.pow_le_pow_right (by decide) h8
    omega
  have p1 : IntKind.i64.wrap (2 ^ z) = (p2 : Int) := by
    have e1 : ((2 : Int) ^ z) = (p2 : Int) := by rw [← hp]; simp
    rw [e1]
    exact IntWalk.i64_in _ (by omega)
  have HP := Lib.hid hp
  clear hp
  go_enter Tryz.func59, Tryz.ntmps59
  go_wp2_with fail
  have q0 := heap_alloc_new w (.cells #[.int .i64 (p2 : Int), .int .i64 ((z : Int) + 1), .bool false, .int .i64 0] 124 (0, 0))
  have e3 : ((z : Int) + 1) = ((z + 1 : Nat) : Int) := by omega
  refine bodyPost_ret (results_cell_row (p := 2) (ty := 124) rfl _ _ w.heap.size 124 _ (0, 0) _ rfl q0 Tryz.underlying124 rfl (kindSize4 _ _ _ _)) rfl ⟨?_, ?_⟩
  · show Ending.returned (.agg #[.int .i64 (p2 : Int), .int .i64 ((z : Int) + 1), .bool false, .int .i64 0]) = _
    rw [e3]
    show _ = Ending.returned (.agg #[.int .i64 ((2 ^ z : Nat) : Int), .int .i64 ((z + 1 : Nat) : Int), .bool false, .int .i64 ((0 : Nat) : Int)])
    rw [HP.out]
    rfl
  · exact (Below.refl _ _).alloc (Nat.le_refl _) _
def GifPackPost (z : Nat) (l : List Int) (w : World) (e : Ending) (w' : World) : Prop := ∃ T v, lz.Tells (gifK z) T l ∧ T.length ≤ 2 * l.length + 3 ∧ e = .returned (.tuple #[v, .int .i64 0]) ∧ Fresh .u8 5 w.heap.size w' v (((lz.bitsOfAll false T).length + 7) / 8) (bt.bytes false (lz.bitsOfAll false T)) ∧ Below w.heap.size w w'
set_option maxRecDepth 100000 in
theorem gifPack_any (z : Nat) (h2 : 2 ≤ z) (h8 : z ≤ 8) (a : Option Addr) (n cap : Nat) (l : List Int) (w : World) (h : Sl .u8 w a n cap l) (hl : ∀ x ∈ l, x < ((2 ^ z : Nat) : Int)) (hn : n ≤ 4294967296) :
    Calls Tryz.prog 19 #[.slice a n cap, .int .i64 z] w (GifPackPost z l w) := by
  have HS := Lib.hid h
  have HL := Lib.hid hl
  have CG := Lib.hid (gif_any z h2 h8 w)
  obtain ⟨p2, hp⟩ : ∃ p2, 2 ^ z = p2 := ⟨_, rfl⟩
  have hle : p2 ≤ 256 := by
    have : 2 ^ z ≤ 2 ^ 8 := Nat.pow_le_pow_right (by decide) h8
    omega
  have p1 : IntKind.i64.wrap (2 ^ z) = (p2 : Int) := by
    have e1 : ((2 : Int) ^ z) = (p2 : Int) := by rw [← hp]; simp
    rw [e1]
    exact IntWalk.i64_in _ (by omega)
  have HP := Lib.hid hp
  clear hp h hl
  go_enter Tryz.func19, Tryz.ntmps19
  go_wp2_with fail
  go_loopg [16] n (fun gk i wr => wr = w ∧ ∃ k : Nat, k ≤ n ∧ gk = n - k ∧ i = .int .i64 k)
  case atStart => exact ⟨rfl, 0, Nat.zero_le _, rfl, rfl⟩
  case round =>
    obtain ⟨rfl, k, hk, hg, rfl⟩ := hrel
    have Hg := Lib.hid hg
    clear hg
    by_cases hlt : k < n
    · obtain ⟨ab, ao, rfl, hcell⟩ := HS.out.cells (by omega)
      have cx := hcell k hlt
      have hxb := byte_getD HS.out.bytes k
      have hxl : l.getD k 0 < (p2 : Int) := by
        rw [← HP.out]
        exact HL.out _ (by rw [List.getD_eq_getElem?_getD, List.getElem?_eq_getElem (by have := HS.out.len; omega)]; exact List.getElem_mem _)
      obtain ⟨x, hx⟩ : ∃ x, l.getD k 0 = x := ⟨_, rfl⟩
      rw [hx] at cx hxb hxl
      clear hcell hx
      go_wp2_with fail
      go_roundg (n - (k + 1))
      case measure => have := Hg.out; omega
      case rel => exact ⟨rfl, k + 1, by omega, rfl, by go_num⟩
    · obtain rfl : k = n := by omega
      go_wp2_with fail
      refine CG.out.mono ?_
      rintro e w2 ⟨rfl, hb2⟩
      have HB2 := Lib.hid hb2
      have CK := Lib.hid (pack_any (gifK z) (gifK_good h2 h8) false a k cap l w2 (HS.out.below hb2) HL.out hn)
      clear hb2 CG
      go_wp2_with fail
      refine CK.out.mono ?_
      rintro e w3 ⟨T, htl, hlen, v, rfl, hf, hb3⟩
      have HF := Lib.hid hf
      have HB3 := Lib.hid (HB2.out.trans (hb3.mono HB2.out.size))
      have HT := Lib.hid (And.intro htl hlen)
      clear hf hb3 htl hlen CK
      go_wp2_with fail
      go_ret2
      exact ⟨T, v, HT.out.1, HT.out.2, rfl, HF.out.mono HB2.out.size, HB3.out⟩
end Go.Proofs.YtioeifbobhdccaaGreatDoor
/- LZW: the table in memory. -/
namespace Go.Proofs.YtioeifbobhdccaaGreatDoor
open Go.RowKit Go.Sort

theorem infoEntry : (Tryz.prog.info? 180).map (fun i => (i.zero, i.size, i.bytes)) = some (some (.agg #[.int .i64 0, .int .u8 0, .int .u8 0, .int .i64 0]), 4, 24) := by kernel_rfl
theorem entrySize4 (a b c d : Value) : (Tryz.prog.info? 180).map (·.size) = some (#[a, b, c, d] : Array Value).size := by
  have h : (Tryz.prog.info? 180).map (·.size) = some 4 := by kernel_rfl
  exact h
def lz.cells (e : lz.E) : List Value := [.int .i64 e.ahead, .int .u8 e.last, .int .u8 e.first, .int .i64 (e.n : Nat)]
theorem lz.cells_one (e : lz.E) : ∀ u ∈ lz.cells e, u.oneCell' = true := by
  intro u hu
  simp only [lz.cells, List.mem_cons, List.not_mem_nil, or_false] at hu
  rcases hu with rfl | rfl | rfl | rfl <;> rfl
def lz.row (t : List lz.E) : List Value := t.flatMap lz.cells
theorem lz.row_length (t : List lz.E) : (lz.row t).length = t.length * 4 := by
  induction t with
  | nil => rfl
  | cons e r ih =>
    simp only [lz.row, List.flatMap_cons, List.length_append, List.length_cons] at ih ⊢
    rw [ih]
    simp [lz.cells]
    omega
theorem lz.row_snoc (t : List lz.E) (e : lz.E) : lz.row (t ++ [e]) = lz.row t ++ lz.cells e := by simp [lz.row]
theorem lz.row_get : ∀ (t : List lz.E) (i : Nat), (lz.row t)[i]? = (t[i / 4]?).bind fun e => (lz.cells e)[i % 4]?
  | [], i => by simp [lz.row]
  | e :: r, i => by
    have hc : (lz.row (e :: r)) = lz.cells e ++ lz.row r := by simp [lz.row]
    have hl : (lz.cells e).length = 4 := rfl
    rw [hc]
    rcases Nat.lt_or_ge i 4 with h | h
    · rw [List.getElem?_append_left (by rw [hl]; exact h), show i / 4 = 0 by omega, show i % 4 = i by omega]
      rfl
    · rw [List.getElem?_append_right (by rw [hl]; exact h), hl, lz.row_get r (i - 4), show i / 4 = (i - 4) / 4 + 1 by omega, List.getElem?_cons_succ, show (i - 4) % 4 = i % 4 by omega]
theorem lz.row_take (t : List lz.E) (n : Nat) : lz.row (t.take n) = (lz.row t).take (n * 4) := by
  apply List.ext_getElem?
  intro i
  rw [lz.row_get, List.getElem?_take, List.getElem?_take, lz.row_get]
  by_cases h : i < n * 4
  · rw [if_pos (by omega), if_pos h]
  · rw [if_neg (by omega), if_neg h]
    rfl
def setL (l : List Value) (o : Nat) : List Value → List Value
  | [] => l
  | v :: r => setL (l.set o v) (o + 1) r
theorem setL_take : ∀ (vs : List Value) (l : List Value) (o m : Nat), (setL l o vs).take m = setL (l.take m) o vs
  | [], _, _, _ => rfl
  | v :: r, l, o, m => by rw [setL, setL, setL_take r, List.take_set]
theorem setL_length : ∀ (vs : List Value) (l : List Value) (o : Nat), (setL l o vs).length = l.length
  | [], _, _ => rfl
  | v :: r, l, o => by rw [setL, setL_length r, List.length_set]
theorem heap_setCells : ∀ (vs : List Value) (o : Nat) (w : World) (g : Nat) (cur : Array Value) (e : TypeId), w.heap[g]? = some (.cells cur e (0, 0)) → (w.setCells g o vs).heap[g]? = some (.cells (setL cur.toList o vs).toArray e (0, 0))
  | [], _, _, _, cur, _, h => by simpa [World.setCells, setL] using h
  | v :: r, o, w, g, cur, e, h => by
    have h1 := heap_setCell_same w g o _ _ v h
    rw [World.setCells, heap_setCells r (o + 1) _ g _ e h1, setL, Array.toList_setIfInBounds]
theorem lz.row_set (t : List lz.E) (j : Nat) (e : lz.E) (hj : j < t.length) : setL (lz.row t) (4 * j) (lz.cells e) = lz.row (t.set j e) := by
  have hl := lz.row_length t
  apply List.ext_getElem?
  intro i
  simp only [lz.cells, setL]
  rw [lz.row_get, List.getElem?_set, List.getElem?_set, List.getElem?_set, List.getElem?_set, List.getElem?_set, lz.row_get]
  simp only [List.length_set, hl]
  by_cases h : j = i / 4
  · have hm : i = 4 * j ∨ i = 4 * j + 1 ∨ i = 4 * j + 1 + 1 ∨ i = 4 * j + 1 + 1 + 1 := by omega
    rcases hm with rfl | rfl | rfl | rfl
    · rw [show (4 * j) / 4 = j by omega, show (4 * j) % 4 = 0 by omega, if_neg (show ¬ (4 * j + 1 + 1 + 1 = 4 * j) by omega), if_neg (show ¬ (4 * j + 1 + 1 = 4 * j) by omega), if_neg (show ¬ (4 * j + 1 = 4 * j) by omega), if_pos rfl, if_pos (show 4 * j < t.length * 4 by omega), if_pos rfl, if_pos hj]
      rfl
    · rw [show (4 * j + 1) / 4 = j by omega, show (4 * j + 1) % 4 = 1 by omega, if_neg (show ¬ (4 * j + 1 + 1 + 1 = 4 * j + 1) by omega), if_neg (show ¬ (4 * j + 1 + 1 = 4 * j + 1) by omega), if_pos rfl, if_pos (show 4 * j + 1 < t.length * 4 by omega), if_pos rfl, if_pos hj]
      rfl
    · rw [show (4 * j + 1 + 1) / 4 = j by omega, show (4 * j + 1 + 1) % 4 = 2 by omega, if_neg (show ¬ (4 * j + 1 + 1 + 1 = 4 * j + 1 + 1) by omega), if_pos rfl, if_pos (show 4 * j + 1 + 1 < t.length * 4 by omega), if_pos rfl, if_pos hj]
      rfl
    · rw [show (4 * j + 1 + 1 + 1) / 4 = j by omega, show (4 * j + 1 + 1 + 1) % 4 = 3 by omega, if_pos rfl, if_pos (show 4 * j + 1 + 1 + 1 < t.length * 4 by omega), if_pos rfl, if_pos hj]
      rfl
  · rw [if_neg h, if_neg (by omega), if_neg (by omega), if_neg (by omega), if_neg (by omega)]
/-- the table -/
def lz.Tab (base : Nat) (w : World) (b : Nat) (t : List lz.E) : Prop := w.ownsRow base 180 4 (.slice (some ⟨b, 0, none⟩) t.length 4096) t.length (lz.row t)
theorem lz.Tab.set {base : Nat} {w : World} {b : Nat} {t : List lz.E} (h : lz.Tab base w b t) (j : Nat) (hj : j < t.length) (e : lz.E) : lz.Tab base (w.setCells b (4 * j) (lz.cells e)) b (t.set j e) := by
  unfold lz.Tab at h ⊢
  rw [List.length_set]
  refine ⟨by rw [lz.row_length, List.length_set], ?_⟩
  rcases h.2 with ⟨h', _⟩ | ⟨g, cap, cur, h', h1, h2, h3, h4, h5, h6⟩
  · cases h'
  · simp only [Value.slice.injEq, Option.some.injEq, Addr.mk.injEq, and_true, true_and] at h'
    obtain ⟨rfl, rfl⟩ := h'
    refine .inr ⟨b, 4096, _, rfl, h1, heap_setCells _ _ _ _ _ _ h2, h3, h4, ?_, ?_⟩
    · simp only [List.size_toArray, setL_length, Array.length_toList]
      exact h5
    · rw [List.toList_toArray, setL_take, h6, lz.row_set t j e hj]
theorem lz.Tab.take {base : Nat} {w : World} {b : Nat} {t : List lz.E} (h : lz.Tab base w b t) {n : Nat} (hn : n ≤ t.length) : lz.Tab base w b (t.take n) := by
  unfold lz.Tab at h ⊢
  have hl : (t.take n).length = n := by rw [List.length_take]; omega
  rw [hl]
  refine ⟨by rw [lz.row_length, hl], ?_⟩
  rcases h.2 with ⟨h', _⟩ | ⟨g, cap, cur, h', h1, h2, h3, h4, h5, h6⟩
  · cases h'
  · simp only [Value.slice.injEq, Option.some.injEq, Addr.mk.injEq, and_true, true_and] at h'
    obtain ⟨rfl, rfl⟩ := h'
    refine .inr ⟨b, 4096, cur, rfl, h1, h2, by omega, h4, h5, ?_⟩
    rw [lz.row_take, ← h6, List.take_take]
    congr 1
    omega
theorem lz.Tab.block {base : Nat} {w : World} {b : Nat} {t : List lz.E} (h : lz.Tab base w b t) : base ≤ b ∧ ∃ cur, w.heap[b]? = some (.cells cur 180 (0, 0)) ∧ t.length * 4 ≤ cur.size := by
  rcases h.2 with ⟨h', _⟩ | ⟨g, cap, cur, h', h1, h2, h3, h4, h5, h6⟩
  · cases h'
  · simp only [Value.slice.injEq, Option.some.injEq, Addr.mk.injEq, and_true, true_and] at h'
    obtain ⟨rfl, rfl⟩ := h'
    exact ⟨h1, cur, h2, by rw [h5]; omega⟩
theorem lz.Tab.cell {base : Nat} {w : World} {b : Nat} {t : List lz.E} (h : lz.Tab base w b t) {j : Nat} {e : lz.E} (he : t[j]? = some e) {f : Nat} (hf : f < 4) {u : Value} (hu : (lz.cells e)[f]? = some u) : w.cell? ⟨b, 4 * j + f, none⟩ = some u := by
  have h1 := World.ownsRow.cells h (g := b) rfl (4 * j + f) u (by rw [lz.row_get, show (4 * j + f) / 4 = j by omega, he, show (4 * j + f) % 4 = f by omega]; exact hu)
  rwa [Addr.add_mid, Nat.zero_add] at h1
theorem lz.Tab.cell' {base : Nat} {w : World} {b : Nat} {t : List lz.E} (h : lz.Tab base w b t) {j : Nat} {e : lz.E} (he : t[j]? = some e) {f : Nat} (hf : f < 4) {u : Value} (hu : (lz.cells e)[f]? = some u) : w.cell? ⟨b, j * 4 + f, none⟩ = some u := by
  rw [Nat.mul_comm]
  exact h.cell he hf hu
theorem lz.Tab.there {base : Nat} {w : World} {b : Nat} {t : List lz.E} (h : lz.Tab base w b t) {j : Nat} (hj : j < t.length) : w.there b (j * 4) 4 := by
  obtain ⟨_, cur, hc, hs⟩ := h.block
  intro q hq
  refine ⟨?_, frozen_of_row w b _ _ _ hc⟩
  rw [cell_of_row w b _ _ _ (0, 0) hc]
  have : j * 4 + q < cur.size := by omega
  simp [this]
theorem lz.Tab.set' {base : Nat} {w : World} {b : Nat} {t : List lz.E} (h : lz.Tab base w b t) (j : Nat) (hj : j < t.length) (e : lz.E) : lz.Tab base (w.setCells b (j * 4) (lz.cells e)) b (t.set j e) := by
  rw [Nat.mul_comm]
  exact h.set j hj e
theorem below_setCells {B : Nat} {b : Nat} (hB : B ≤ b) : ∀ (vs : List Value) (o : Nat) {w0 w : World}, Below B w0 w → Below B w0 (w.setCells b o vs)
  | [], _, _, _, h => h
  | v :: r, o, _, _, h => below_setCells hB r (o + 1) (h.setCell hB v)
theorem lz.Tab.most {base : Nat} {w : World} {b : Nat} {t : List lz.E} (h : lz.Tab base w b t) : t.length ≤ 4096 := by
  rcases h.2 with ⟨h', _⟩ | ⟨g, cap, cur, h', h1, h2, h3, h4, h5, h6⟩
  · cases h'
  · simp only [Value.slice.injEq, Option.some.injEq, Addr.mk.injEq, and_true, true_and] at h'
    obtain ⟨rfl, rfl⟩ := h'
    exact h3
theorem lz.Tab.kept {base : Nat} {w w' : World} {b : Nat} {t : List lz.E} {row : Option Nat} (h : lz.Tab base w b t) (hg : w.grownBy w' row) (hne : some b ≠ row) : lz.Tab base w' b t := World.ownsRow.kept h hg (.inr hne)
theorem lz.Tab.below {base : Nat} {w w' : World} {b : Nat} {t : List lz.E} (h : lz.Tab base w b t) (hb : Below w.heap.size w w') : lz.Tab base w' b t := ownsRow_below h hb
theorem run_make_entries (w : World) (n : Nat) (hn : n ≤ 4096) : (Instr.makeSlice 175 (.int .i64 (n : Nat)) (.int .i64 4096)).run Tryz.prog w = .ok (.slice (some ⟨w.heap.size, 0, none⟩) n 4096) (w.alloc (.cells (madeCells (Value.agg #[.int .i64 0, .int .u8 0, .int .u8 0, .int .i64 0]).cells 16384) 180)) := by
  obtain ⟨i, hi, hz, hs, hb⟩ := info_parts infoEntry
  have h := run_makeSlice (P := Tryz.prog) w 175 180 i _ Tryz.underlying175 hi hz .i64 .i64 (n : Nat) 4096 (by omega) (by omega) (by rw [hs]; decide) (by rw [hb]; decide) (by decide)
  rw [hs] at h
  simpa using h
theorem tab_made (w : World) (n : Nat) (hn : n ≤ 4096) (base : Nat) (hb : base ≤ w.heap.size) : lz.Tab base (w.alloc (.cells (madeCells (Value.agg #[.int .i64 0, .int .u8 0, .int .u8 0, .int .i64 0]).cells 16384) 180)) w.heap.size (List.replicate n ⟨0, 0, 0, 0⟩) := by
  unfold lz.Tab
  rw [List.length_replicate]
  refine ⟨by rw [lz.row_length, List.length_replicate], .inr ⟨w.heap.size, 4096, _, rfl, hb, heap_alloc_new w _, hn, by decide, size_madeCells _ _, ?_⟩⟩
  apply List.ext_getElem?
  intro i
  rw [lz.row_get, List.getElem?_take, List.getElem?_replicate]
  by_cases h : i < n * 4
  · rw [if_pos h, if_pos (by omega)]
    have : i < 16384 := by omega
    have hm : i % 4 = 0 ∨ i % 4 = 1 ∨ i % 4 = 2 ∨ i % 4 = 3 := by omega
    rcases hm with e | e | e | e <;> simp [madeCells, this, e, Value.cells, lz.cells]
  · rw [if_neg h, if_neg (by omega)]
    rfl
theorem make_entries (w : World) (n : Nat) (hn : n ≤ 4096) (base : Nat) (hb : base ≤ w.heap.size) : ∃ cur : Array Value, (Instr.makeSlice 175 (.int .i64 (n : Nat)) (.int .i64 4096)).run Tryz.prog w = .ok (.slice (some ⟨w.heap.size, 0, none⟩) n 4096) (w.alloc (.cells cur 180)) ∧ lz.Tab base (w.alloc (.cells cur 180)) w.heap.size (List.replicate n ⟨0, 0, 0, 0⟩) :=
  ⟨_, run_make_entries w n hn, tab_made w n hn base hb⟩
end Go.Proofs.YtioeifbobhdccaaGreatDoor
