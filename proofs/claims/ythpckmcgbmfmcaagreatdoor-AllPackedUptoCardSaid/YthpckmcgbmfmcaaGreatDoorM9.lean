/- Texts of this claim, joined. -/
import Derived.Test.YthpckmcgbmfmcaaGreatDoorM8
import Derived.BigRegion
import Derived.Sort.CutIn
set_option maxRecDepth 100000
set_option maxHeartbeats 12800000
namespace Go.Proofs.YthpckmcgbmfmcaaGreatDoor
open Go.RowKit Go.Sort
def gifK (z : Nat) : lz.K := ⟨2 ^ z, z + 1, 0⟩
theorem gifK_good {z : Nat} (h2 : 2 <= z) (h8 : z <= 8) : (gifK z).Good := by
 have : z = 2 \/ z = 3 \/ z = 4 \/ z = 5 \/ z = 6 \/ z = 7 \/ z = 8 := by omega
 rcases this with e | e | e | e | e | e | e <;> subst e <;> exact ⟨by decide, by decide, by decide, by decide, by decide, by decide⟩
theorem kindSize : (Tryz.prog.info? 71).map (·.size) = some 4 := by kernel_rfl
theorem kindSize4 (a b c d : Value) : (Tryz.prog.info? 71).map (·.size) = some (#[a, b, c, d] : Array Value).size := kindSize
def KindPost (z : Nat) (w : World) (e : Ending) (w' : World) : Prop := e = .returned (.agg #[.int .i64 ((gifK z).clear : Nat), .int .i64 ((gifK z).width : Nat), .bool false, .int .i64 ((gifK z).early : Nat)]) /\ Below w.heap.size w w'
theorem gif_any (z : Nat) (h2 : 2 <= z) (h8 : z <= 8) (w : World) : Calls Tryz.prog 30 #[.int .i64 z] w (KindPost z w) := by
 obtain ⟨p2, hp⟩ : ∃ p2, 2 ^ z = p2 := ⟨_, rfl⟩;have hle : p2 <= 256 := by
  have : 2 ^ z <= 2 ^ 8 := Nat.pow_le_pow_right (by decide) h8;omega
 have p1 : IntKind.i64.wrap (2 ^ z) = (p2 : Int) := by
  have e1 : ((2 : Int) ^ z) = (p2 : Int) := by rw [<- hp]; simp
  rw [e1];exact i64i (by omega)
 have HP := hd_ hp;clear hp;go_enter Tryz.func30, Tryz.ntmps30
 go_wp2_with fail
 have q0 := heap_alloc_new w (.cells #[.int .i64 (p2 : Int), .int .i64 ((z : Int) + 1), .bool false, .int .i64 0] 71 (0, 0));have e3 : ((z : Int) + 1) = ((z + 1 : Nat) : Int) := by omega
 refine bodyPost_ret (results_cell_row (p := 2) (ty := 71) rfl _ _ w.heap.size 71 _ (0, 0) _ rfl q0 Tryz.underlying71 rfl (kindSize4 _ _ _ _)) rfl ⟨?_, ?_⟩
 ·show Ending.returned (.agg #[.int .i64 (p2 : Int), .int .i64 ((z : Int) + 1), .bool false, .int .i64 0]) = _
  rw [e3];show _ = Ending.returned (.agg #[.int .i64 ((2 ^ z : Nat) : Int), .int .i64 ((z + 1 : Nat) : Int), .bool false, .int .i64 ((0 : Nat) : Int)]);rw [HP.out];rfl
 ·exact (Below.refl _ _).alloc (Nat.le_refl _) _
def GifPackPost (z : Nat) (l : List Int) (w : World) (e : Ending) (w' : World) : Prop := ∃ T v, lz.Tells (gifK z) T l /\ T.length <= 2 * l.length + 3 /\ e = .returned (.tuple #[v, .int .i64 0]) /\ Fresh .u8 5 w.heap.size w' v (((lz.bitsOfAll false T).length + 7) / 8) (bt.bytes false (lz.bitsOfAll false T)) /\ Below w.heap.size w w'
theorem gifPack_any (z : Nat) (h2 : 2 <= z) (h8 : z <= 8) (a : Option Addr) (n cap : Nat) (l : List Int) (w : World) (h : Sl .u8 w a n cap l) (hl : ∀ x ∈ l, x < ((2 ^ z : Nat) : Int)) (hn : n <= 4294967296) :
  Calls Tryz.prog 9 #[.slice a n cap, .int .i64 z] w (GifPackPost z l w) := by
 have HS := hd_ h;have HL := hd_ hl;have CG := hd_ (gif_any z h2 h8 w);obtain ⟨p2, hp⟩ : ∃ p2, 2 ^ z = p2 := ⟨_, rfl⟩;have hle : p2 <= 256 := by
  have : 2 ^ z <= 2 ^ 8 := Nat.pow_le_pow_right (by decide) h8;omega
 have p1 : IntKind.i64.wrap (2 ^ z) = (p2 : Int) := by
  have e1 : ((2 : Int) ^ z) = (p2 : Int) := by rw [<- hp]; simp
  rw [e1];exact i64i (by omega)
 have HP := hd_ hp;clear hp h hl;go_enter Tryz.func9, Tryz.ntmps9
 go_wp2_with fail
 go_loopg [16] n (fun gk i wr => wr = w /\ ∃ k : Nat, k <= n /\ gk = n - k /\ i = .int .i64 k)
 case atStart => exact ⟨rfl, 0, Nat.zero_le _, rfl, rfl⟩
 case round =>
  obtain ⟨rfl, k, hk, hg, rfl⟩ := hrel;have Hg := hd_ hg;clear hg;by_cases hlt : k < n
  ·obtain ⟨ab, ao, rfl, hcell⟩ := HS.out.cells (by omega)
   have cx := hcell k hlt;have hxb := byte_getD HS.out.bytes k;have hxl : l.getD k 0 < (p2 : Int) := by
    rw [<- HP.out];exact HL.out _ (by rw [List.getD_eq_getElem?_getD, List.getElem?_eq_getElem (by have := HS.out.len; omega)]; exact List.getElem_mem _)
   obtain ⟨x, hx⟩ : ∃ x, l.getD k 0 = x := ⟨_, rfl⟩;rw [hx] at cx hxb hxl;clear hcell hx;go_wp2_with fail
   go_roundg (n - (k + 1))
   case measure => have := Hg.out; omega
   case rel => exact ⟨rfl, k + 1, by omega, rfl, by go_num⟩
  ·obtain rfl : k = n := by omega
   go_wp2_with fail
   refine CG.out.mono ?_;rintro e w2 ⟨rfl, hb2⟩;have HB2 := hd_ hb2;have CK := hd_ (pack_any (gifK z) (gifK_good h2 h8) false a k cap l w2 (HS.out.below hb2) HL.out hn);clear hb2 CG;go_wp2_with fail
   refine CK.out.mono ?_;rintro e w3 ⟨T, htl, hlen, v, rfl, hf, hb3⟩;have HF := hd_ hf;have HB3 := hd_ (HB2.out.trans (hb3.mono HB2.out.size));have HT := hd_ (And.intro htl hlen);clear hf hb3 htl hlen CK;go_wp2_with fail
   go_ret2
   exact ⟨T, v, HT.out.1, HT.out.2, rfl, HF.out.mono HB2.out.size, HB3.out⟩
theorem infoEntry : (Tryz.prog.info? 151).map (fun i => (i.zero, i.size, i.bytes)) = some (some (.agg #[.int .i64 0, .int .u8 0, .int .u8 0, .int .i64 0]), 4, 24) := by kernel_rfl
theorem entrySize4 (a b c d : Value) : (Tryz.prog.info? 151).map (·.size) = some (#[a, b, c, d] : Array Value).size := by
 have h : (Tryz.prog.info? 151).map (·.size) = some 4 := by kernel_rfl
 exact h
def lz.cells (e : lz.E) : List Value := [.int .i64 e.ahead, .int .u8 e.last, .int .u8 e.first, .int .i64 (e.n : Nat)]
theorem lz.cells_one (e : lz.E) : ∀ u ∈ lz.cells e, u.oneCell' = true := by
 intro u hu;simp only [lz.cells, List.mem_cons, List.not_mem_nil, or_false] at hu;rcases hu with rfl | rfl | rfl | rfl <;> rfl
def lz.row (t : List lz.E) : List Value := t.flatMap lz.cells
theorem lz.row_length (t : List lz.E) : (lz.row t).length = t.length * 4 := by
 induction t with
 | nil => rfl
 | cons e r ih =>
  simp only [lz.row, List.flatMap_cons, List.length_append, List.length_cons] at ih ⊢;rw [ih];simp [lz.cells];omega
theorem lz.row_snoc (t : List lz.E) (e : lz.E) : lz.row (t ++ [e]) = lz.row t ++ lz.cells e := by simp [lz.row]
theorem lz.row_get : ∀ (t : List lz.E) (i : Nat), (lz.row t)[i]? = (t[i / 4]?).bind fun e => (lz.cells e)[i % 4]?
 | [], i => by simp [lz.row]
 | e :: r, i => by
  have hc : (lz.row (e :: r)) = lz.cells e ++ lz.row r := by simp [lz.row]
  have hl : (lz.cells e).length = 4 := rfl;rw [hc];rcases Nat.lt_or_ge i 4 with h | h
  ·rw [List.getElem?_append_left (by rw [hl]; exact h), show i / 4 = 0 by omega, show i % 4 = i by omega]
   rfl
  ·rw [List.getElem?_append_right (by rw [hl]; exact h), hl, lz.row_get r (i - 4), show i / 4 = (i - 4) / 4 + 1 by omega, List.getElem?_cons_succ, show (i - 4) % 4 = i % 4 by omega]
theorem lz.row_take (t : List lz.E) (n : Nat) : lz.row (t.take n) = (lz.row t).take (n * 4) := by
 apply List.ext_getElem?
 intro i;rw [lz.row_get, List.getElem?_take, List.getElem?_take, lz.row_get];by_cases h : i < n * 4
 ·rw [if_pos (by omega), if_pos h]
 ·rw [if_neg (by omega), if_neg h]
  rfl
def setL (l : List Value) (o : Nat) : List Value -> List Value
 | [] => l
 | v :: r => setL (l.set o v) (o + 1) r
theorem setL_take : ∀ (vs : List Value) (l : List Value) (o m : Nat), (setL l o vs).take m = setL (l.take m) o vs
 | [], _, _, _ => rfl
 | v :: r, l, o, m => by rw [setL, setL, setL_take r, List.take_set]
theorem setL_length : ∀ (vs : List Value) (l : List Value) (o : Nat), (setL l o vs).length = l.length
 | [], _, _ => rfl
 | v :: r, l, o => by rw [setL, setL_length r, List.length_set]
theorem heap_setCells : ∀ (vs : List Value) (o : Nat) (w : World) (g : Nat) (cur : Array Value) (e : TypeId), w.heap[g]? = some (.cells cur e (0, 0)) -> (w.setCells g o vs).heap[g]? = some (.cells (setL cur.toList o vs).toArray e (0, 0))
 | [], _, _, _, cur, _, h => by simpa [World.setCells, setL] using h
 | v :: r, o, w, g, cur, e, h => by
  have h1 := heap_setCell_same w g o _ _ v h;rw [World.setCells, heap_setCells r (o + 1) _ g _ e h1, setL, Array.toList_setIfInBounds]
theorem lz.row_set (t : List lz.E) (j : Nat) (e : lz.E) (hj : j < t.length) : setL (lz.row t) (4 * j) (lz.cells e) = lz.row (t.set j e) := by
 have hl := lz.row_length t;apply List.ext_getElem?
 intro i;simp only [lz.cells, setL];rw [lz.row_get, List.getElem?_set, List.getElem?_set, List.getElem?_set, List.getElem?_set, List.getElem?_set, lz.row_get];simp only [List.length_set, hl];by_cases h : j = i / 4
 ·have hm : i = 4 * j \/ i = 4 * j + 1 \/ i = 4 * j + 1 + 1 \/ i = 4 * j + 1 + 1 + 1 := by omega
  rcases hm with rfl | rfl | rfl | rfl
  ·rw [show (4 * j) / 4 = j by omega, show (4 * j) % 4 = 0 by omega, if_neg (show ¬ (4 * j + 1 + 1 + 1 = 4 * j) by omega), if_neg (show ¬ (4 * j + 1 + 1 = 4 * j) by omega), if_neg (show ¬ (4 * j + 1 = 4 * j) by omega), if_pos rfl, if_pos (show 4 * j < t.length * 4 by omega), if_pos rfl, if_pos hj]
   rfl
  ·rw [show (4 * j + 1) / 4 = j by omega, show (4 * j + 1) % 4 = 1 by omega, if_neg (show ¬ (4 * j + 1 + 1 + 1 = 4 * j + 1) by omega), if_neg (show ¬ (4 * j + 1 + 1 = 4 * j + 1) by omega), if_pos rfl, if_pos (show 4 * j + 1 < t.length * 4 by omega), if_pos rfl, if_pos hj]
   rfl
  ·rw [show (4 * j + 1 + 1) / 4 = j by omega, show (4 * j + 1 + 1) % 4 = 2 by omega, if_neg (show ¬ (4 * j + 1 + 1 + 1 = 4 * j + 1 + 1) by omega), if_pos rfl, if_pos (show 4 * j + 1 + 1 < t.length * 4 by omega), if_pos rfl, if_pos hj]
   rfl
  ·rw [show (4 * j + 1 + 1 + 1) / 4 = j by omega, show (4 * j + 1 + 1 + 1) % 4 = 3 by omega, if_pos rfl, if_pos (show 4 * j + 1 + 1 + 1 < t.length * 4 by omega), if_pos rfl, if_pos hj]
   rfl
 ·rw [if_neg h, if_neg (by omega), if_neg (by omega), if_neg (by omega), if_neg (by omega)]
def lz.Tab (base : Nat) (w : World) (b : Nat) (t : List lz.E) : Prop := w.ownsRow base 151 4 (.slice (some ⟨b, 0, none⟩) t.length 4096) t.length (lz.row t)
theorem lz.Tab.set {base : Nat} {w : World} {b : Nat} {t : List lz.E} (h : lz.Tab base w b t) (j : Nat) (hj : j < t.length) (e : lz.E) : lz.Tab base (w.setCells b (4 * j) (lz.cells e)) b (t.set j e) := by
 unfold lz.Tab at h ⊢;rw [List.length_set];refine ⟨by rw [lz.row_length, List.length_set], ?_⟩;rcases h.2 with ⟨h', _⟩ | ⟨g, cap, cur, h', h1, h2, h3, h4, h5, h6⟩
 ·cases h'
 ·simp only [Value.slice.injEq, Option.some.injEq, Addr.mk.injEq, and_true, true_and] at h'
  obtain ⟨rfl, rfl⟩ := h';refine .inr ⟨b, 4096, _, rfl, h1, heap_setCells _ _ _ _ _ _ h2, h3, h4, ?_, ?_⟩
  ·simp only [List.size_toArray, setL_length, Array.length_toList]
   exact h5
  ·rw [List.toList_toArray, setL_take, h6, lz.row_set t j e hj]
theorem lz.Tab.take {base : Nat} {w : World} {b : Nat} {t : List lz.E} (h : lz.Tab base w b t) {n : Nat} (hn : n <= t.length) : lz.Tab base w b (t.take n) := by
 unfold lz.Tab at h ⊢;have hl : (t.take n).length = n := by rw [List.length_take]; omega
 rw [hl];refine ⟨by rw [lz.row_length, hl], ?_⟩;rcases h.2 with ⟨h', _⟩ | ⟨g, cap, cur, h', h1, h2, h3, h4, h5, h6⟩
 ·cases h'
 ·simp only [Value.slice.injEq, Option.some.injEq, Addr.mk.injEq, and_true, true_and] at h'
  obtain ⟨rfl, rfl⟩ := h';refine .inr ⟨b, 4096, cur, rfl, h1, h2, by omega, h4, h5, ?_⟩;rw [lz.row_take, <- h6, List.take_take];congr 1
  omega
theorem lz.Tab.block {base : Nat} {w : World} {b : Nat} {t : List lz.E} (h : lz.Tab base w b t) : base <= b /\ ∃ cur, w.heap[b]? = some (.cells cur 151 (0, 0)) /\ t.length * 4 <= cur.size := by
 rcases h.2 with ⟨h', _⟩ | ⟨g, cap, cur, h', h1, h2, h3, h4, h5, h6⟩
 ·cases h'
 ·simp only [Value.slice.injEq, Option.some.injEq, Addr.mk.injEq, and_true, true_and] at h'
  obtain ⟨rfl, rfl⟩ := h';exact ⟨h1, cur, h2, by rw [h5]; omega⟩
theorem lz.Tab.cell {base : Nat} {w : World} {b : Nat} {t : List lz.E} (h : lz.Tab base w b t) {j : Nat} {e : lz.E} (he : t[j]? = some e) {f : Nat} (hf : f < 4) {u : Value} (hu : (lz.cells e)[f]? = some u) : w.cell? ⟨b, 4 * j + f, none⟩ = some u := by
 have h1 := World.ownsRow.cells h (g := b) rfl (4 * j + f) u (by rw [lz.row_get, show (4 * j + f) / 4 = j by omega, he, show (4 * j + f) % 4 = f by omega]; exact hu)
 rwa [Addr.add_mid, Nat.zero_add] at h1
theorem lz.Tab.cell' {base : Nat} {w : World} {b : Nat} {t : List lz.E} (h : lz.Tab base w b t) {j : Nat} {e : lz.E} (he : t[j]? = some e) {f : Nat} (hf : f < 4) {u : Value} (hu : (lz.cells e)[f]? = some u) : w.cell? ⟨b, j * 4 + f, none⟩ = some u := by
 rw [Nat.mul_comm];exact h.cell he hf hu
theorem lz.Tab.there {base : Nat} {w : World} {b : Nat} {t : List lz.E} (h : lz.Tab base w b t) {j : Nat} (hj : j < t.length) : w.there b (j * 4) 4 := by
 obtain ⟨_, cur, hc, hs⟩ := h.block;intro q hq;refine ⟨?_, frozen_of_row w b _ _ _ hc⟩;rw [cell_of_row w b _ _ _ (0, 0) hc];have : j * 4 + q < cur.size := by omega
 simp [this]
theorem lz.Tab.set' {base : Nat} {w : World} {b : Nat} {t : List lz.E} (h : lz.Tab base w b t) (j : Nat) (hj : j < t.length) (e : lz.E) : lz.Tab base (w.setCells b (j * 4) (lz.cells e)) b (t.set j e) := by
 rw [Nat.mul_comm];exact h.set j hj e
theorem below_setCells {B : Nat} {b : Nat} (hB : B <= b) : ∀ (vs : List Value) (o : Nat) {w0 w : World}, Below B w0 w -> Below B w0 (w.setCells b o vs)
 | [], _, _, _, h => h
 | v :: r, o, _, _, h => below_setCells hB r (o + 1) (h.setCell hB v)
theorem lz.Tab.most {base : Nat} {w : World} {b : Nat} {t : List lz.E} (h : lz.Tab base w b t) : t.length <= 4096 := by
 rcases h.2 with ⟨h', _⟩ | ⟨g, cap, cur, h', h1, h2, h3, h4, h5, h6⟩
 ·cases h'
 ·simp only [Value.slice.injEq, Option.some.injEq, Addr.mk.injEq, and_true, true_and] at h'
  obtain ⟨rfl, rfl⟩ := h';exact h3
theorem lz.Tab.kept {base : Nat} {w w' : World} {b : Nat} {t : List lz.E} {row : Option Nat} (h : lz.Tab base w b t) (hg : w.grownBy w' row) (hne : some b ≠ row) : lz.Tab base w' b t := World.ownsRow.kept h hg (.inr hne)
theorem lz.Tab.below {base : Nat} {w w' : World} {b : Nat} {t : List lz.E} (h : lz.Tab base w b t) (hb : Below w.heap.size w w') : lz.Tab base w' b t := ownsRow_below h hb
theorem run_make_entries (w : World) (n : Nat) (hn : n <= 4096) : (Instr.makeSlice 147 (.int .i64 (n : Nat)) (.int .i64 4096)).run Tryz.prog w = .ok (.slice (some ⟨w.heap.size, 0, none⟩) n 4096) (w.alloc (.cells (madeCells (Value.agg #[.int .i64 0, .int .u8 0, .int .u8 0, .int .i64 0]).cells 16384) 151)) := by
 obtain ⟨i, hi, hz, hs, hb⟩ := info_parts infoEntry;have h := run_makeSlice (P := Tryz.prog) w 147 151 i _ Tryz.underlying147 hi hz .i64 .i64 (n : Nat) 4096 (by omega) (by omega) (by rw [hs]; decide) (by rw [hb]; decide) (by decide);rw [hs] at h
 simpa using h
theorem tab_made (w : World) (n : Nat) (hn : n <= 4096) (base : Nat) (hb : base <= w.heap.size) : lz.Tab base (w.alloc (.cells (madeCells (Value.agg #[.int .i64 0, .int .u8 0, .int .u8 0, .int .i64 0]).cells 16384) 151)) w.heap.size (List.replicate n ⟨0, 0, 0, 0⟩) := by
 unfold lz.Tab;rw [List.length_replicate];refine ⟨by rw [lz.row_length, List.length_replicate], .inr ⟨w.heap.size, 4096, _, rfl, hb, heap_alloc_new w _, hn, by decide, size_madeCells _ _, ?_⟩⟩;apply List.ext_getElem?
 intro i;rw [lz.row_get, List.getElem?_take, List.getElem?_replicate];by_cases h : i < n * 4
 ·rw [if_pos h, if_pos (by omega)]
  have : i < 16384 := by omega
  have hm : i % 4 = 0 \/ i % 4 = 1 \/ i % 4 = 2 \/ i % 4 = 3 := by omega
  rcases hm with e | e | e | e <;> simp [madeCells, this, e, Value.cells, lz.cells]
 ·rw [if_neg h, if_neg (by omega)]
  rfl
theorem make_entries (w : World) (n : Nat) (hn : n <= 4096) (base : Nat) (hb : base <= w.heap.size) : ∃ cur : Array Value, (Instr.makeSlice 147 (.int .i64 (n : Nat)) (.int .i64 4096)).run Tryz.prog w = .ok (.slice (some ⟨w.heap.size, 0, none⟩) n 4096) (w.alloc (.cells cur 151)) /\ lz.Tab base (w.alloc (.cells cur 151)) w.heap.size (List.replicate n ⟨0, 0, 0, 0⟩) :=
 ⟨_, run_make_entries w n hn, tab_made w n hn base hb⟩
def Mem (t t' : List C4) : Prop := t'.length = t.length /\ ∀ c ∈ t', c ∈ t
end Go.Proofs.YthpckmcgbmfmcaaGreatDoor
namespace Go.Proofs.YthpckmcgbmfmcaaGreatDoor
open Go.RowKit
section
variable {F : Fence} {m : Nat} {P : Program} {ops : Array Oper} {Q : Exit -> Act -> World -> Prop} {D : Nat -> Nat}
theorem rowsIn_wide0 {row : String} {args : Array Value} {w : World} {R : Value -> World -> Prop} (h : Rows P row args w R) : RowsIn Fence.wide m P row args w R := by
 intro c cs _;obtain ⟨v, w', r, s⟩ := h c cs;exact ⟨v, w', r, stepsIn_wide.2 s⟩
theorem oper_wide {o : Oper} {a : Act} {w : World} {K : Act -> World -> Prop} (hnd : noDefer o = true) (h : o.wp P a w K Q) : o.wpIn Fence.wide m P a w K Q := by
 refine ⟨fun _ _ => trivial, ?_⟩;rw [Oper.semAt_eq _ _ _ (noDefer_spec hnd)];unfold Oper.wp at h;generalize (execOp a.eval o).run P w = r at h;cases r with
 | ok x w' =>
  cases x with
  | enter f args => exact ⟨fun h => by simp [Fence.wide] at h, callsIn_wide.2 h⟩
  | row row args => exact ⟨fun h => by simp [Fence.wide] at h, rowsIn_wide0 h⟩
  | value v => exact h
  | skip => exact h
  | defer d => exact h
  | _ => exact h.elim
 | halt x w' => cases x <;> exact h
theorem wpAnyIn_of_seq : ∀ (l : List Oper) (k : Nat) (listed : Array Bool) (a : Act) (w : World), (∀ j, l[j]? = ops[k + j]?) ->
  Region.seqB .any ops l.length k listed = true -> wpListIn F m P ops Q l a w -> wpAnyIn F m P .any ops Q l.length listed a w
 | [], _, _, _, _, _, hB, h => ⟨by simpa [Region.seqB] using hB, h⟩
 | o :: l, k, listed, a, w, hl, hB, h => by
  have h0 : ops[k]? = some o := by simpa using (hl 0).symm
  simp only [List.length_cons, Region.seqB, Bool.and_eq_true, decide_eq_true_eq] at hB;refine ⟨fun h1 => (by rw [hB.1] at h1; cases h1), fun i hi => ?_⟩;rw [hB.1] at hi;obtain rfl : i = k := by simpa using hi
  have hw : wpOpIn F m P ops Q i (wpListIn F m P ops Q l) a w := by unfold wpOpIn; simp only [h0]; exact h
  exact wpOpIn_mono (fun a' w' h' => wpAnyIn_of_seq l (i + 1) _ a' w' (fun j => by have := hl (j + 1); simpa [Nat.add_assoc, Nat.add_comm 1 j] using this) hB.2 h') hw
theorem wpAnyIn_laid_tails (hF : ∀ {o : Oper} {a : Act} {w : World} {K : Act -> World -> Prop}, noDefer o = true -> o.wp P a w K Q -> o.wpIn F m P a w K Q) {R : Nat -> Value -> World -> Prop} {S : Act -> World -> Prop} {a₀ : Act} {w₀ : World} (n : Nat) (hn : n < ops.size)
  (hb : backs ops = true) (hs : Region.sinkB .any ops n = true) (hc : Region.chainB .any ops n = true) (hq : Region.seqB .any ops (ops.toList.drop n).length n (firstN ops.size n) = true) (hlf : left (firstN ops.size n) = (ops.toList.drop n).length) (hp : plainHead ops D n a₀.tmps.size = true)
  (hR : ∀ i v w w', R i v w -> Below w.heap.size w w' -> R i v w')
  (hS : ∀ a w, Below w₀.heap.size w₀ w -> w₀.heap.size <= w.heap.size -> (∀ d, (∀ i, i < n -> D i ≠ d) -> a.tmps[d]? = a₀.tmps[d]?) -> S a w)
  (hnd : (ops.toList.take n).all noDefer = true) (hop : AllDo (OpDoes P Q S D R) 0 (ops.toList.take n))
  (hfin : ∀ a w, LaidH n D R a₀ w₀ (Array.replicate ops.size true) a w -> wpListIn F m P ops Q (ops.toList.drop n) a w) :
  wpAnyIn F m P .any ops Q ops.size (Array.replicate ops.size false) a₀ { w₀ with drawn := w₀.drawn + 1 } := by
 have key : ∀ fuel listed a w, listed.size = ops.size -> left listed = fuel -> HeadInv .any ops n listed -> LaidH n D R a₀ w₀ listed a w -> wpAnyIn F m P .any ops Q fuel listed a w := by
  intro fuel
  induction fuel with
  | zero =>
   intro listed a w hsz hl hH _;exfalso;have h1 := left_zero listed hl n;rw [hH.tail n (Nat.le_refl _) hn] at h1;cases h1
  | succ f ih =>
   intro listed a w hsz hl hH hI;by_cases hall : ∀ j, j < n -> listed.getD j false = true
   ·have he := eq_firstN hsz hall hH.tail
    have hL : LaidH n D R a₀ w₀ (Array.replicate ops.size true) a w := ⟨hI.below, hI.defers, hI.size, hI.old, fun j hj _ => hI.new j hj (hall j hj)⟩;have := wpAnyIn_of_seq (F := F) (m := m) (P := P) (Q := Q) (ops.toList.drop n) n listed a w (fun j => by simp [List.getElem?_drop]) (by rw [he]; exact hq) (hfin a w hL);rw [<- hlf, <- he, hl] at this;exact this
   ·obtain ⟨j0, hj0⟩ := Classical.not_forall.1 hall
    obtain ⟨hj0n, hj0f⟩ := Classical.not_imp.1 hj0;have hj0t : listed.getD j0 true = false := by
     have : j0 < listed.size := (by rw [hsz]; omega);simp [this] at hj0f ⊢; exact hj0f
    refine ⟨fun hnil => ?_, fun i hi => ?_⟩
    ·exfalso
     have h1 := all_listed hb hsz hnil n hn;have h2 := hH.tail n (Nat.le_refl _) hn;have h3 : n < listed.size := (by rw [hsz]; exact hn);simp [h3] at h1 h2;rw [h2] at h1; cases h1
    ·have hin : i < n := by
      rcases Nat.lt_or_ge i n with h | h
      ·exact h
      ·exact absurd hi (tail_waits hs hc hn hH _ j0 rfl hj0n hj0t i h)
     have hi0 := hi;obtain ⟨hun, o, ho, hal⟩ := mem_ready.1 hi;have hlt : i < ops.size := (Array.getElem?_eq_some_iff.1 ho).1;obtain ⟨hg, hd, hdn⟩ := plainHead_at hp hin ho;have hwanted : Region.wanted o (yielded ops a.tmps) = true := (by simp [Region.wanted, hg]);have hdo := AllDo.at hop (i := i) (o := o) (by simpa [List.getElem?_take, hin] using ho);rw [Nat.zero_add] at hdo;have hnd' : noDefer o = true := List.all_eq_true.1 hnd o (List.mem_of_getElem? (i := i) (by simpa [List.getElem?_take, hin] using ho));unfold wpOpIn;simp only [ho, hwanted, if_true];refine hF hnd' (Oper.wp_mono ?_ (hdo a w (hS a w hI.below hI.below.size hI.old) fun j hj => ?_))
     ·rintro a' w' ⟨v, rfl, hRv, hbw⟩
      rw [hd];refine ih _ _ _ (by simpa using hsz) ?_ (hH.set hi0 hin) ⟨hI.below.trans (hbw.mono hI.below.size), hI.defers, ?_, ?_, ?_⟩
      ·have := left_set listed i hun
       omega
      ·simpa [Act.put] using hI.size
      ·intro d hdd
       have : D i ≠ d := hdd i hin;simp only [Act.put, Array.getElem?_setIfInBounds_ne this];exact hI.old d hdd
      ·intro j hj hjl
       by_cases hij : i = j
       ·subst hij
        exact ⟨v, by simp [Act.put, hI.size, hdn], hRv⟩
       ·rw [getD_set_ne false hij] at hjl
        obtain ⟨u, hu, hRu⟩ := hI.new j hj hjl;refine ⟨u, ?_, hR j u w w' hRu hbw⟩;simp only [Act.put, Array.getElem?_setIfInBounds_ne (plainHead_ne hp hin hj hij)];exact hu
     ·obtain ⟨e, he, hbd⟩ := Array.any_eq_true'.1 hj
      simp only [Bool.and_eq_true, beq_iff_eq] at hbd;have hl := hal e he hbd.2;rw [hbd.1] at hl;have hjn : j < n := by
       have h1 := List.all_eq_true.1 hb i (List.mem_range.2 hlt);rw [ho] at h1;have h2 := Array.all_eq_true_iff_forall_mem.1 h1 e he;have : e.on < i := (by simpa using h2);omega
      exact hI.new j hjn hl
 refine key _ _ _ _ (by simp) (by simp [left]) ⟨by simp, fun j oj _ hl => (by rw [getD_replicate_false] at hl; cases hl), fun t _ ht => getD_in (by simpa using ht) (getD_replicate_false _ _)⟩ ⟨Below.drew (Below.refl _ _), rfl, rfl, fun _ _ => rfl, fun i hi hl => ?_⟩;rw [getD_replicate_false] at hl; cases hl
end
end Go.Proofs.YthpckmcgbmfmcaaGreatDoor
namespace Go.Proofs.YthpckmcgbmfmcaaGreatDoor
open Go.RowKit Go.Sort Go.Shelf
attribute [local go_sem] Oper.semAt_some
def KeepsL (bs : List Nat) (W W' : World) : Prop := ∀ j ∈ bs, W'.heap[j]? = W.heap[j]?
theorem KeepsL.trans {bs : List Nat} {W W' W'' : World} (h : KeepsL bs W W') (k : KeepsL bs W' W'') : KeepsL bs W W'' := fun j hj => (k j hj).trans (h j hj)
theorem KeepsL.refl (bs : List Nat) (W : World) : KeepsL bs W W := fun _ _ => rfl
theorem KeepsL.below {bs : List Nat} {W W' : World} (hs : ∀ j ∈ bs, j < W.heap.size) (hb : Below W.heap.size W W') : KeepsL bs W W' := fun j hj => hb.block j (hs j hj)
theorem KeepsL.put {bs : List Nat} {w : World} (hs : ∀ j ∈ bs, j < w.heap.size) (W : World) (l : Nat) (o o' : Obj) (hl : w.heap.size <= l) (_ : W.heap[l]? = some o) (_ : o.isCells = false) (_ : o.isWalk = false) : KeepsL bs W (W.putObj l o') :=
 fun j hj => World.putObj_heap_other (by have := hs j hj; omega)
abbrev RunIx := { p : Int × Nat // 1 <= p.2 /\ p.2 <= 128 /\ 0 <= p.1 /\ p.1 < 256 }
def pk.flat (pre : List RunIx) : List Int := pre.flatMap fun p => List.replicate p.1.2 p.1.1
theorem pk.flat_snoc (pre : List RunIx) (x : RunIx) : pk.flat (pre ++ [x]) = pk.flat pre ++ List.replicate x.1.2 x.1.1 := by simp [pk.flat]
theorem pk.flat_len (pre : List RunIx) : (pk.flat pre).length <= 128 * pre.length := by
 induction pre with
 | nil => exact Nat.le_refl _
 | cons x t ih =>
  have := x.2.2.1;unfold pk.flat at *;rw [List.flatMap_cons, List.length_append, List.length_replicate, List.length_cons];omega
theorem pk.run_take {l : List Int} {i m : Nat} {x : Int} (hi : i + m <= l.length) (h : ∀ j, j < m -> l.getD (i + j) 0 = x) : l.take (i + m) = l.take i ++ List.replicate m x := by
 rw [List.take_add];congr 1
 apply List.ext_getElem
 ·rw [List.length_take, List.length_drop, List.length_replicate]
  omega
 ·intro j h1 h2
  rw [List.length_replicate] at h2;have := h j h2;rw [List.getElem_replicate, List.getElem_take, List.getElem_drop, <- this, List.getD_eq_getElem?_getD, List.getElem?_eq_getElem (by omega)];rfl
def runEnc (x : RunIx) : Array Value := #[.int .u8 x.1.1, .int .i64 (x.1.2 : Nat)]
theorem runs1_in (n lr bx b off N cap : Nat) (l : List Int) (hN : N <= 17179869184)
  (J Jx : List RunIx -> World -> Prop) (hJb : ∀ pre W W', J pre W -> Below W.heap.size W W' -> J pre W')
  (hY : ∀ pre x W', J pre W' -> pre.length < N -> YieldAt Fence.wide (n - 1) Tryz.prog lr (runEnc x) W' fun e W'' =>
   (e = .returned (.bool true) /\ J (pre ++ [x]) W'' /\ KeepsL [bx, b] W' W'') \/ (e = .returned (.bool false) /\ Jx (pre ++ [x]) W''))
  (w : World) (hb : w.heap[bx]? = some (.cells #[.slice (some ⟨b, off, none⟩) N cap] 22 (0, 0))) (hs : Sl .u8 w (some ⟨b, off, none⟩) N cap l) (hbl : b < w.heap.size) (h0 : J [] w) :
  CallsIn Fence.wide n Tryz.prog 78 #[.func (.yield lr) #[] #[], .pointer (some ⟨bx, 0, none⟩)] w fun e W' => (∃ v, e = .returned v) /\
   ((∃ ys, pk.flat ys = l /\ J ys W') \/ (∃ pre, True /\ Jx pre W')) := by
 have hY' := hd_ hY;have HD := hd_ hJb;have H0 := hd_ h0;have HB := hd_ hb;have HS := hd_ hs;have HL := hd_ hs.len;have HBL := hd_ hbl;clear hY hJb h0 hb hs hbl;refine callsIn_of_wp Tryz.func78 rfl trivial ?_ rfl;simp only [Tryz.ntmps78, List.size_toArray, List.length_cons, List.length_nil, Nat.reduceAdd, Nat.reduceSub, Array.replicate_succ, Array.replicate_zero, List.push_toArray, List.append_toArray, List.nil_append, List.cons_append];gi_wp2
 gi_loopw [3] (fun s3 wr => ∃ (i : Nat) (pre : List RunIx), s3 = .int .i64 (i : Nat) /\ i <= N /\ pre.length <= i /\ pk.flat pre = l.take i /\ J pre wr /\ KeepsL [bx, b] w wr)
  (fun s3 _ => N - (intOf s3).toNat)
 case atStart => exact ⟨0, [], by simp, Nat.zero_le _, Nat.le_refl _, by rw [List.take_zero]; rfl, H0.out, KeepsL.refl _ _⟩
 case round =>
  obtain ⟨i, pre, rfl, hi, hpl, hfl, hJs, hnx⟩ := hrel;have HPL := hd_ hpl;have HFL := hd_ hfl;have HJ := hd_ hJs;have HKL := hd_ hnx;have hlt2 : ∀ j ∈ [bx, b], j < wr.heap.size := by
   intro j hj;simp only [List.mem_cons, List.not_mem_nil, or_false] at hj;rcases hj with rfl | rfl
   ·exact block_lt ((hnx _ (by simp)).trans HB.out)
   ·have h1 := hnx j (by simp)
    have h2 : w.heap[j]? = some w.heap[j] := Array.getElem?_eq_getElem HBL.out;exact block_lt (h1.trans h2)
  have HLT := hd_ hlt2;have kb := (cr_ wr 0 ((hnx bx (by simp)).trans HB.out) (Value.slice (some ⟨b, off, none⟩) N cap) rfl);clear hpl hfl hJs hnx hlt2;by_cases hlt : i < N
  ·have hcell : ∀ j, j < N -> wr.cell? ⟨b, off + j, none⟩ = some (.int .u8 (l.getD j 0)) := by
    intro j hj;rw [World.cell?_of_block (a := ⟨b, off + j, none⟩) (HKL.out b (by simp))];obtain ⟨b', off', e, hc⟩ := HS.out.cells (by omega);cases e;exact hc j hj
   have HC := hd_ hcell;clear hcell;obtain ⟨xi, hxi⟩ : ∃ z, l.getD i 0 = z := ⟨_, rfl⟩;have hxb : 0 <= xi /\ xi < 256 := (by rw [<- hxi]; exact byte_getD HS.out.bytes i);have hci := HC.out i hlt;rw [hxi] at hci;have HXI := hd_ hxi;clear hxi;gi_wp2
   rename World => w1
   gi_loopw [4] (fun s4 wr => ∃ m : Nat, s4 = .int .i64 (m : Nat) /\ 1 <= m /\ m <= 128 /\ i + m <= N /\ (∀ j, j < m -> l.getD (i + j) 0 = xi) /\ Below w1.heap.size w1 wr)
    (fun s4 _ => 128 - (intOf s4).toNat)
   case atStart =>
    refine ⟨1, by simp, Nat.le_refl _, by decide, hlt, fun j hj => ?_, Below.refl _ _⟩;obtain rfl : j = 0 := (by omega);exact HXI.out
   case round =>
    obtain ⟨m, rfl, hm1, hm2, him, hall, hbm⟩ := hrel;have HAL := hd_ hall;have HBM := hd_ hbm;clear hall;obtain ⟨q, hq⟩ : ∃ z, i + m = z := ⟨_, rfl⟩;have HQ := hd_ hq;have hw : IntKind.i64.wrap ((i : Int) + (m : Int)) = (q : Int) := i64o (by omega) (by omega);have kb2 := keep_cell hbm kb;have hci2 := keep_cell hbm hci;clear hbm;have hi' : (i : Int) < (N : Int) := (by omega);gi_upto_region 3 with (fail)
    refine wpIn_wide.2 ?_;go_cut [31] from 9 to 33 (fun s31 wx => s31 = .bool (decide (q < N /\ l.getD q 0 = xi /\ m < 128)) /\ Below wr.heap.size wr wx)
    case first =>
     by_cases hqN : q < N
     ·have hcq := HC.out q hqN
      have hcq2 := keep_cell HBM.out hcq;obtain ⟨xq, hxq⟩ : ∃ z, l.getD q 0 = z := ⟨_, rfl⟩;rw [hxq] at hcq2;have HXQ := hd_ hxq;have HQN := hd_ hqN;clear hcq hxq;have hd : decide ((q : Int) < (N : Int)) = true := (by simp; omega);have hd' : (q : Int) < (N : Int) := (by omega);by_cases hxx : xq = xi
      ·have he : (xq == xi) = true := by simpa using hxx
       have HXX := hd_ hxx;clear hxx;by_cases hm128 : m < 128
       ·have hd2 : decide ((m : Int) < 128) = true := by simp; omega
        have HM1 := hd_ hm128;go_quiet (fail)
        go_wp2_with fail
        go_meet
        exact ⟨(congrArg Value.bool (decide_eq_true ⟨HQN.out, HXQ.out.trans HXX.out, HM1.out⟩)).symm, below_drewN (Below.refl _ _) _⟩
       ·have hd2 : decide ((m : Int) < 128) = false := by simp; omega
        have HM1 := hd_ hm128;go_quiet (fail)
        go_wp2_with fail
        go_meet
        exact ⟨(congrArg Value.bool (decide_eq_false (fun h => HM1.out h.2.2))).symm, below_drewN (Below.refl _ _) _⟩
      ·have he : (xq == xi) = false := by simpa using hxx
       have HXX := hd_ hxx;clear hxx;go_quiet (fail)
       go_wp2_with fail
       go_meet
       exact ⟨(congrArg Value.bool (decide_eq_false (fun h => HXX.out (HXQ.out.symm.trans h.2.1)))).symm, below_drewN (Below.refl _ _) _⟩
     ·have hd : decide ((q : Int) < (N : Int)) = false := by simp; omega
      have HQN := hd_ hqN;go_quiet (fail)
      go_wp2_with fail
      go_meet
      exact ⟨(congrArg Value.bool (decide_eq_false (fun h => HQN.out h.1))).symm, below_drewN (Below.refl _ _) _⟩
    case rest =>
     obtain ⟨rfl, hb9⟩ := hcut;have HB9 := hd_ (HBM.out.trans (hb9.mono HBM.out.size));clear hb9 kb2 hci2 HBM;by_cases hgo : q < N /\ l.getD q 0 = xi /\ m < 128
     ·rw [decide_eq_true hgo]
      have hw2 : IntKind.i64.wrap ((m : Int) + 1) = ((m + 1 : Nat) : Int) := i64i (by omega);gi_wp2
      go_roundw
      case rel =>
       refine ⟨m + 1, rfl, by omega, by omega, by omega, fun j hj => ?_, HB9.out⟩;rcases Nat.lt_or_ge j m with h | h
       ·exact HAL.out j h
       ·obtain rfl : j = m := by omega
        rw [HQ.out];exact hgo.2.1
      case measure => simp [intOf]; omega
     ·rw [decide_eq_false hgo]
      clear hgo;have kb9 := keep_cell HB9.out kb;have hci9 := keep_cell HB9.out hci;have HJu := hd_ (HD.out _ _ _ HJ.out HB9.out);have HKu := hd_ (KeepsL.trans HKL.out (KeepsL.below HLT.out HB9.out));obtain ⟨fn, tm, asg, bd, hy, hR⟩ := hY'.out pre ⟨(xi, m), hm1, hm2, hxb⟩ wc HJu.out (by have := HPL.out; omega);have HYR := hd_ hR;have hen : runEnc (⟨(xi, m), hm1, hm2, hxb⟩ : RunIx) = #[.int .u8 xi, .int .i64 (m : Nat)] := rfl;rw [hen] at hy;clear hR HJ HKL kb hci hen;gi_wp2
      refine ⟨fun h => by simp [Fence.wide] at h, ?_⟩;refine HYR.out.mono ?_;rintro e W3 (⟨rfl, hJ3, hk3⟩ | ⟨rfl, hJx3⟩)
      ·have HJ3 := hd_ hJ3
       have HK3 := hd_ (KeepsL.trans HKu.out hk3);clear hJ3 hk3 HYR hy HKu kb9 hci9;gi_wp2
       go_roundw
       case rel =>
        refine ⟨q, _, rfl, by omega, by rw [List.length_append]; have := HPL.out; simp only [List.length_cons, List.length_nil]; omega, ?_, HJ3.out, HK3.out⟩;rw [pk.flat_snoc, HFL.out, <- hq];exact (pk.run_take (by have := HL.out; omega) HAL.out).symm
       case measure => simp [intOf]; omega
      ·have HX := hd_ hJx3
       clear hJx3;gi_wp2
       refine bodyPost_ret (results_none rfl _ _ _) rfl ?_;exact ⟨⟨_, rfl⟩, .inr ⟨_, trivial, HX.out⟩⟩
  ·obtain rfl : i = N := by omega
   gi_wp2
   go_end0
   refine ⟨⟨_, rfl⟩, .inl ⟨pre, ?_, HJ.out⟩⟩;rw [HFL.out, <- HL.out, List.take_length]
theorem runs_any (p : Option Addr) (n cap : Nat) (w : World) :
  Calls Tryz.prog 35 #[.slice p n cap] w fun e w' => e = .returned (.func (.func 78) #[] #[.pointer (some ⟨w.heap.size, 0, none⟩)]) /\ w' = w.alloc (.cells #[.slice p n cap] 22) := by
 go_enter Tryz.func35, Tryz.ntmps35
 go_wp2
 go_ret
 exact ⟨rfl, rfl⟩
theorem runs_stops (n bx b off N cap : Nat) (l : List Int) (hN : N <= 17179869184) (w : World) (hb : w.heap[bx]? = some (.cells #[.slice (some ⟨b, off, none⟩) N cap] 22 (0, 0))) (hs : Sl .u8 w (some ⟨b, off, none⟩) N cap l) (hbl : b < w.heap.size) :
  SeqStopsK Fence.wide n Tryz.prog 78 #[.pointer (some ⟨bx, 0, none⟩)] (fun x : RunIx => runEnc x) (KeepsL [bx, b]) (fun ys => pk.flat ys = l) (fun _ => True) N w := fun lr J Jx W' hW hJ _ hY h0 =>
 runs1_in n lr bx b off N cap l hN J Jx (fun pre A B h hbl' => hJ pre A B none h (grown_of_below hbl') (fun r e => by cases e)) hY W' ((hW.block _ (block_lt hb)).trans hb) (hs.below hW) (Nat.lt_of_lt_of_le hbl hW.size) h0
end Go.Proofs.YthpckmcgbmfmcaaGreatDoor
