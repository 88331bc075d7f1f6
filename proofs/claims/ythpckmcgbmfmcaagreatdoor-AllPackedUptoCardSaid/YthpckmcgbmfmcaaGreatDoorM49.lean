/- Texts of this claim, joined. -/
import Derived.Test.YthpckmcgbmfmcaaGreatDoorM9
import Derived.Lib.AppendZerosOnto
set_option maxRecDepth 100000
set_option maxHeartbeats 12800000
namespace Go.Proofs.YthpckmcgbmfmcaaGreatDoor
open Go.RowKit Go.Sort
def tiffK : lz.K := ⟨256, 9, 1⟩
theorem tiffK_good : lz.K.Good tiffK := ⟨by decide, by decide, by decide, by decide, by decide, by decide⟩
theorem tiff_any (w : World) : Calls Tryz.prog 33 #[] w fun e w' => e = .returned (.agg #[.int .i64 (tiffK.clear : Nat), .int .i64 (tiffK.width : Nat), .bool true, .int .i64 (tiffK.early : Nat)]) /\ Below w.heap.size w w' := by
 go_enter Tryz.func33, Tryz.ntmps33
 go_wp2_with fail
 have q0 := heap_alloc_new w (.cells #[.int .i64 256, .int .i64 9, .bool true, .int .i64 1] 71 (0, 0));exact bodyPost_ret (results_cell_row (p := 0) (ty := 71) rfl _ _ w.heap.size 71 _ (0, 0) _ rfl q0 Tryz.underlying71 rfl (kindSize4 _ _ _ _)) rfl ⟨rfl, (Below.refl _ _).alloc (Nat.le_refl _) _⟩
theorem tiffPack_any (a : Option Addr) (n cap : Nat) (l : List Int) (w : World) (h : Sl .u8 w a n cap l) (hn : n <= 4294967296) :
  Calls Tryz.prog 12 #[.slice a n cap] w fun e w' => ∃ w1, Below w.heap.size w w1 /\ lz.PackPost tiffK true l w1 e w' := by
 have HS := hd_ h;have KT := hd_ (tiff_any w);clear h;go_enter Tryz.func12, Tryz.ntmps12
 go_wp2_with fail
 refine KT.out.mono ?_;rintro e w1 ⟨rfl, hb⟩;have KP := hd_ (pack_any tiffK tiffK_good true a n cap l w1 (HS.out.below hb) (fun x hx => (HS.out.bytes x hx).2) hn);have HB := hd_ hb;clear hb KT;go_wp2_with fail
 refine KP.out.mono ?_;rintro e w2 ⟨T, ht1, ht2, v, rfl, hf, hb2⟩;have H1 := hd_ (And.intro ht1 (And.intro ht2 (And.intro hf hb2)));clear ht1 ht2 hf hb2 KP;go_wp2_with fail
 go_ret
 exact ⟨w1, HB.out, T, H1.out.1, H1.out.2.1, v, rfl, H1.out.2.2.1, H1.out.2.2.2⟩
def lz.tabAt (k : lz.K) (i : Nat) : List lz.E := (List.range i).map lz.leaf ++ List.replicate (k.clear + 2 - i) ⟨0, 0, 0, 0⟩
theorem lz.tabAt_length (k : lz.K) {i : Nat} (h : i <= k.clear + 2) : (lz.tabAt k i).length = k.clear + 2 := by simp [lz.tabAt]; omega
theorem lz.tabAt_succ (k : lz.K) {i : Nat} (h : i < k.clear + 2) : (lz.tabAt k i).set i (lz.leaf i) = lz.tabAt k (i + 1) := by
 unfold lz.tabAt;have e : k.clear + 2 - i = (k.clear + 2 - (i + 1)) + 1 := by omega
 rw [List.set_append_right _ _ (by simp), List.range_succ, List.map_append, List.append_assoc, e, List.replicate_succ];simp
theorem lz.tabAt_end (k : lz.K) : lz.tabAt k k.clear = lz.entries k := by
 unfold lz.tabAt lz.entries;rw [show k.clear + 2 - k.clear = 2 by omega];rfl
theorem entryOne (a b c d : Int) : (#[.int .i64 a, .int .u8 b, .int .u8 c, .int .i64 d] : Array Value).all (·.oneCell') = true := by simp [Value.oneCell']
def EntPost (k : lz.K) (w : World) (e : Ending) (w' : World) : Prop := ∃ b, e = .returned (.slice (some ⟨b, 0, none⟩) (k.clear + 2) 4096) /\ lz.Tab w.heap.size w' b (lz.entries k) /\ Below w.heap.size w w'
theorem entries_any (k : lz.K) (hk : k.Good) (up : Bool) (w : World) :
  Calls Tryz.prog 76 #[.agg #[.int .i64 (k.clear : Nat), .int .i64 (k.width : Nat), .bool up, .int .i64 (k.early : Nat)]] w (EntPost k w) := by
 have hkm := hk.most;have q0 := heap_alloc_new w (.cells #[.int .i64 (k.clear : Nat), .int .i64 (k.width : Nat), .bool up, .int .i64 (k.early : Nat)] 71 (0, 0));have B0 := hd_ ((Below.refl w.heap.size w).alloc (Nat.le_refl _) (.cells #[.int .i64 (k.clear : Nat), .int .i64 (k.width : Nat), .bool up, .int .i64 (k.early : Nat)] 71));have KB := hd_ q0;have hsz : (w.alloc (.cells #[.int .i64 (k.clear : Nat), .int .i64 (k.width : Nat), .bool up, .int .i64 (k.early : Nat)] 71)).heap.size = w.heap.size + 1 := by simp
 have HSZ := hd_ hsz;clear q0 hsz;go_enter Tryz.func76, Tryz.ntmps76
 go_upto_region 1 with (fail)
 obtain ⟨w0, hw0⟩ : ∃ w0, w.alloc (.cells #[.int .i64 (k.clear : Nat), .int .i64 (k.width : Nat), .bool up, .int .i64 (k.early : Nat)] 71) = w0 := ⟨_, rfl⟩;rw [hw0] at B0 KB HSZ ⊢;clear hw0;have c0 := (cr_ w0 0 KB.out (Value.int .i64 (k.clear : Nat)) rfl);have e2 : ((k.clear : Int) + 2) = ((k.clear + 2 : Nat) : Int) := by omega
 obtain ⟨cur, hm, htab⟩ := make_entries w0 (k.clear + 2) (by omega) w0.heap.size (Nat.le_refl _);rw [<- e2] at hm;have HT := hd_ htab;clear htab e2;have c1 := keep_cell ((Below.refl w0.heap.size w0).alloc (Nat.le_refl _) (.cells cur 151)) c0;have B1 := hd_ (B0.out.trans (((Below.refl w0.heap.size w0).alloc (Nat.le_refl _) (.cells cur 151)).mono (by have := HSZ.out; omega)));go_wp2_with fail
 have HBL := hd_ (show w.heap.size <= w0.heap.size by have := HSZ.out; omega);generalize w0.alloc (.cells cur 151) = w1 at *;obtain ⟨b, hb⟩ : ∃ b, w0.heap.size = b := ⟨_, rfl⟩;rw [hb] at HT HBL ⊢;clear c0 c1 hb hm;go_loopg [11] k.clear (fun gk i wr => ∃ j : Nat, j <= k.clear /\ gk = k.clear - j /\ i = .int .i64 (j : Nat) /\ lz.Tab w.heap.size wr b (lz.tabAt k j) /\ Below w.heap.size w wr)
 case atStart => exact ⟨0, Nat.zero_le _, rfl, rfl, ownsRow_base HT.out HBL.out, B1.out⟩
 case round =>
  obtain ⟨j, hj, hg, rfl, ht, hbl⟩ := hrel;have Hg := hd_ hg;have HTR := hd_ ht;have HBR := hd_ hbl;clear hg ht hbl HT B1;by_cases hlt : j < k.clear
  ·have hl := lz.tabAt_length k (i := j) (by omega)
   have hj1 : (j : Int) < ((k.clear + 2 : Nat) : Int) := (by omega);have hth := HTR.out.there (j := j) (by omega);go_wp2_with (refine wpList_store_mid rfl 151 _ _ rfl b (j * 4) #[.int .i64 (-1), .int .u8 (j : Nat), .int .u8 (j : Nat), .int .i64 1] ?_ ?_ ?_ ?_ ?_ ?_)
   ·rfl
   ·rfl
   ·exact hth
   ·exact entrySize4 _ _ _ _
   ·exact entryOne _ _ _ _
   go_roundg (k.clear - (j + 1))
   case measure => have := Hg.out; omega
   case rel =>
    refine ⟨j + 1, by omega, rfl, by go_num, ?_, below_setCells HTR.out.block.1 _ _ HBR.out⟩;rw [<- lz.tabAt_succ k (by omega)];exact HTR.out.set' j (by omega) (lz.leaf j)
  ·obtain rfl : j = k.clear := by omega
   go_wp2_with fail
   go_ret
   exact ⟨b, rfl, by rw [<- lz.tabAt_end]; exact HTR.out, HBR.out⟩
theorem zeroCells_byte (k : Nat) : Builtin.zeroCells (Value.int .u8 0).cells k = ((List.replicate k (0 : Int)).map (Value.int .u8)).toArray := by
 apply Array.ext'
 apply List.ext_getElem?
 intro i;by_cases h : i < k
 ·simp [Builtin.zeroCells, Value.cells, h, Nat.mod_one]
 ·simp [Builtin.zeroCells, Value.cells, h]
theorem run_append_zeros (w : World) (ty : TypeId) (base : Nat) (v : Value) (n : Nat) (xs : List Int) (hown : w.ownsRow base 5 1 v n (xs.map (Value.int .u8))) (m : Nat) (h0 : 0 < m)
  (hb : n + m <= 140737488355328) (hbase : base <= w.heap.size) :
  ∃ v' w', (Builtin.append_ #[22, 3] ty #[v, .int .i64 (m : Nat)]).run Tryz.prog w = .ok v' w' /\ (AppOut base (n + m) (xs ++ List.replicate m 0) w v.ownBlock v' w' /\ (v'.ownBlock = v.ownBlock \/ v'.ownBlock = some w.heap.size)) := by
 obtain ⟨i, hi, hz, hs, hby⟩ := info_parts infoByte;have ht := Tryz.underlying22;have htn := Tryz.underlying3;have hlen : ((xs ++ List.replicate m 0).map (Value.int .u8)).length = (n + m) * 1 := by
  have := hown.1;simp at this ⊢;omega
 have hxl : xs.length = n := by have := hown.1; simpa using this
 have grown : ∀ (old : Nat), old < n + m -> ∀ (row : Option Nat),
   (w.drew.alloc (.cells ((xs.map (Value.int .u8)).toArray ++ Builtin.zeroCells (Value.int .u8 0).cells m ++ Builtin.zeroCells (Value.int .u8 0).cells (grownCap w (n + m) old 5 - (n + m))) 5)).ownsRow base 5 1
    (.slice (some ⟨w.heap.size, 0, none⟩) (n + m) (grownCap w (n + m) old 5)) (n + m) ((xs ++ List.replicate m 0).map (Value.int .u8)) /\
   w.grownBy (w.drew.alloc (.cells ((xs.map (Value.int .u8)).toArray ++ Builtin.zeroCells (Value.int .u8 0).cells m ++ Builtin.zeroCells (Value.int .u8 0).cells (grownCap w (n + m) old 5 - (n + m))) 5)) row := by
  intro old ho row;have hge := grownCap_ge w (n + m) old 5;have hcm : grownCap w (n + m) old 5 <= maxLen := grownCap_le_maxLen w (n + m) old 5 (by unfold maxLen; omega);refine ⟨⟨hlen, .inr ⟨w.heap.size, _, _, rfl, hbase, heap_alloc_new w.drew _, hge, hcm, ?_, ?_⟩⟩, ⟨rfl, rfl, rfl, by simp, fun k hk _ => RowKit.Below.heap_alloc w.drew _ k hk⟩⟩
  ·simp only [Array.size_append, List.size_toArray, size_zeroCells, List.length_map, hxl, Value.cells]
   simp;omega
  ·rw [zeroCells_byte m]
   simp only [Array.toList_append];rw [<- List.map_append, <- hlen];exact List.take_left
 rcases hown.2 with ⟨rfl, rfl⟩ | ⟨g, cap, cur, rfl, hbg, hg, hnc, hcm, hcs, htake⟩
 ·have hx : xs = [] := List.eq_nil_of_length_eq_zero hxl
  subst hx;have hr := Lib.run_append_grow_zeros (P := Tryz.prog) w 22 3 ty 5 i (.int .u8 0) .i64 .i64 ht htn hi hz none 0 0 [] (by simp [Builtin.firstCells]) m h0 (by omega) (by omega) (by omega) (by rw [hby]; omega) (by rw [hby]; simp [nextslicecap_zero h0]; omega);have hgr := grown 0 (by omega) (Value.ownBlock (.slice none 0 0));simp only [Nat.zero_add] at hgr hr ⊢;exact ⟨_, _, hr, ⟨hgr.1, hgr.2⟩, .inr rfl⟩
 ·by_cases hroom : n + m <= cap
  ·have hfit : n * 1 + ((List.replicate m (0 : Int)).map (Value.int .u8)).length <= cur.size := by simp [hcs]; omega
   have hst := run_storeCells_at Tryz.prog g (n * 1) 5 ((List.replicate m (0 : Int)).map (Value.int .u8)) 0 cur w hg (by simpa using hfit) (ints_oneCell _ _);simp only [Nat.add_zero] at hst;have hr : (Builtin.append_ #[22, 3] ty #[.slice (some ⟨g, 0, none⟩) n cap, .int .i64 (m : Nat)]).run Tryz.prog w =
     .ok (.slice (some ⟨g, 0, none⟩) (n + m) cap) (w.setRow g (cur.toList.take (n * 1) ++ ((List.replicate m (0 : Int)).map (Value.int .u8)) ++ cur.toList.drop (n * 1 + ((List.replicate m (0 : Int)).map (Value.int .u8)).length)).toArray) := by
    have hw : IntKind.i64.wrap (m : Int) = m := (by rw [IntKind.wrap_i64]; omega);have h48i : ¬ (281474976710656 < (m : Int)) := (by omega);have hneg : ¬ ((m : Int) < 0) := (by omega);have hm0 : ¬ m = 0 := (by omega);have hzc := zeroCells_byte m;simp [Builtin.append_, run_underlying ht, run_underlying htn, sizeOf, typeInfo, zeroValue, hi, hz, hs, hby, asInt, asIntOf, hw, hroom, hneg, hm0, h48i, hzc, Addr.add_lit];have hst' : (storeCells { block := g, off := n } (List.replicate m (Value.int .u8 0))).run Tryz.prog w = .ok () (w.setRow g (List.take n cur.toList ++ (List.replicate m (Value.int .u8 0) ++ List.drop (n + m) cur.toList)).toArray) := (by simpa using hst);rw [hst'];rfl
   refine ⟨_, _, hr, ⟨⟨hlen, .inr ⟨g, cap, _, rfl, hbg, setRow_heap w g cur _ 5 _ hg, hroom, hcm, ?_, ?_⟩⟩, ⟨rfl, rfl, rfl, by simp, fun k _ hk => setRow_other w g k _ (fun e => hk (by simp [Value.ownBlock, e]))⟩⟩, Or.inl rfl⟩
   ·simp only [List.size_toArray, List.length_append, List.length_take, List.length_drop, Array.length_toList, List.length_map, List.length_replicate]
    omega
   ·rw [htake, <- hlen, <- List.map_append]
    exact List.take_left
  ·have holds : ∀ j u, (xs.map (Value.int .u8))[j]? = some u -> w.cell? ((⟨g, 0, none⟩ : Addr).add j) = some u := hown.cells (g := g) rfl
   have hf := run_firstCells_some (P := Tryz.prog) w.drew i.size n ⟨g, 0, none⟩ n cap (xs.map (Value.int .u8)) (by rw [hs]; exact hown.1) holds;have hfit := growslice_fits (need := n + m) (old := cap) (bytes := 1) (by omega) (by omega);have hr := Lib.run_append_grow_zeros (P := Tryz.prog) w 22 3 ty 5 i (.int .u8 0) .i64 .i64 ht htn hi hz (some ⟨g, 0, none⟩) n cap (xs.map (Value.int .u8)) hf m h0 (by omega) (by omega) (by omega) (by rw [hby]; omega) (by rw [hby]; exact hfit);have hgr := grown cap (by omega) (Value.ownBlock (.slice (some ⟨g, 0, none⟩) n cap));exact ⟨_, _, hr, ⟨hgr.1, hgr.2⟩, .inr rfl⟩
theorem tab_append (w : World) (ty : TypeId) (base b : Nat) (t : List lz.E) (e : lz.E) (h : lz.Tab base w b t) (ht : t.length < 4096) (g : Nat) (hg : w.heap[g]? = some (.cells #[.int .i64 e.ahead, .int .u8 e.last, .int .u8 e.first, .int .i64 (e.n : Nat)] 151 (0, 0))) :
  ∃ w', (Builtin.append_ #[147, 147] ty #[.slice (some ⟨b, 0, none⟩) t.length 4096, .slice (some ⟨g, 0, none⟩) 1 1]).run Tryz.prog w = .ok (.slice (some ⟨b, 0, none⟩) (t.length + 1) 4096) w' /\ lz.Tab base w' b (t ++ [e]) /\ w.grownBy w' (some b) := by
 obtain ⟨i, hi, hz, hs, hby⟩ := info_parts infoEntry;obtain ⟨w', h1, h2, h3⟩ := run_append_fits (P := Tryz.prog) w base 147 ty 151 i 4 Tryz.underlying147 hi hs b t.length 4096 (lz.row t) h ⟨g, 0, none⟩ 1 1 (lz.cells e) rfl (by
  intro j u hu;rw [Addr.add_mid, Nat.zero_add, cell_of_row w g j _ _ (0, 0) hg];rw [<- hu];simp [lz.cells]) (lz.cells_one e) (by omega)
 refine ⟨w', h1, ?_, h3⟩;unfold lz.Tab;rw [lz.row_snoc, List.length_append];exact h2
end Go.Proofs.YthpckmcgbmfmcaaGreatDoor
