/- Texts of this claim, joined. -/
import Derived.Test.YthpckmcgbmfmcaaGreatDoorM16
import Derived.Test.YthpckmcgbmfmcaaGreatDoorM18
import Derived.Lib.SlBytesConst
import Derived.Lib.SmallJoins
set_option maxRecDepth 100000
set_option maxHeartbeats 12800000
namespace Go.Proofs.YthpckmcgbmfmcaaGreatDoor
open Go.RowKit Go.Sort
def Fill1Post (c : C4) (w : World) (e : Ending) (w' : World) : Prop :=
 ∃ g cap, e = .returned (.tuple #[.agg #[.int .i64 1, .int .i64 1, .slice (some ⟨g, 0, none⟩) 4 cap], .int .i64 0]) /\ w'.ownsRow w.heap.size 39 1 (.slice (some ⟨g, 0, none⟩) 4 cap) 4 (c.list.map (Value.int .u16)) /\ Below w.heap.size w w'
theorem fill1_any (c : C4) (w : World) :
  Calls Tryz.prog 16 #[.int .i64 1, .int .i64 1, .agg #[.int .u16 c.r, .int .u16 c.g, .int .u16 c.b, .int .u16 c.a]] w (Fill1Post c w) := by
 obtain ⟨w0, hw0, k1, k2, k3, hs0, hB0⟩ := alloc3 w (.cells #[.int .u16 c.r, .int .u16 c.g, .int .u16 c.b, .int .u16 c.a] 41) (.cells #[.int .i64 0, .int .i64 0, .slice none 0 0] 36) (.cells #[.int .i64 1, .int .i64 1, .slice none 0 0] 36);obtain ⟨cb, hcb⟩ : ∃ x, w.heap.size = x := ⟨_, rfl⟩;have HCB := hd_ hcb;have HB0 := hd_ hB0;rw [hcb] at k1 k2 k3 hs0;have K1 := hd_ k1;have K2 := hd_ k2;have K3 := hd_ k3;have HW0 := hd_ hw0;have HS0 := hd_ hs0;clear hw0 k1 k2 k3 hs0 hB0 hcb;go_enter Tryz.func16, Tryz.ntmps16
 go_wp2_with fail
 refine (fits_any 1 1 _).mono ?_;rintro e w1 ⟨rfl, rfl⟩;rw [show fitsB 1 1 = true from rfl];go_upto_region 4 with (fail)
 rw [<- HW0.out, HCB.out];go_wp2_with fail
 refine wp_loop_rounds 2 ?_;rw [rounds_succ];have KA := hd_ (refadd_any cb 1 1 none 0 0 [] c w0 (World.ownsRow_nil _ _ _ _) (by have := HS0.out; omega) (by omega));go_wp2_with (first
  | (with_reducible refine wpList_load_row rfl 36 _ rfl (cb + 1 + 1) rfl 36 _ (0, 0) _ K3.out Tryz.underlying36 rfl (imgSize3 _ _ _) ?_)
  | (with_reducible refine wpList_load_row rfl 41 _ rfl cb rfl 41 _ (0, 0) _ K1.out Tryz.underlying41 rfl (colSize4 _ _ _ _) ?_))
 refine KA.out.mono ?_;rintro e w1 ⟨g, cap, rfl, hr1, hg1⟩;simp only [Nat.zero_add, List.nil_append] at hr1;rw [Nat.zero_add];have L3 := hd_ (grown_block hg1 K3.out (by intro e; cases e));have L2 := hd_ (grown_block hg1 K2.out (by intro e; cases e));have hk3 := grownBy_setRow w1 (cb + 1 + 1) #[.int .i64 1, .int .i64 1, .slice (some ⟨g, 0, none⟩) 4 cap];have hne3 : some (cb + 1 + 1) ≠ (Value.slice (some ⟨g, 0, none⟩) 4 cap).ownBlock := own_ne hr1 L3.out (by decide);have hr2 := World.ownsRow.kept hr1 hk3 (.inr hne3.symm);have M2 := hd_ (grown_block hk3 L2.out (by intro e; have := Option.some.inj e; omega));have M3 : Hid ((w1.setRow (cb + 1 + 1) #[.int .i64 1, .int .i64 1, .slice (some ⟨g, 0, none⟩) 4 cap]).heap[cb + 1 + 1]? = some (.cells #[.int .i64 1, .int .i64 1, .slice (some ⟨g, 0, none⟩) 4 cap] 36 (0, 0))) := hd_ (setRow_heap _ _ _ _ _ _ L3.out);have HR2 := hd_ hr2;have HB2 : Hid (Below w.heap.size w (w1.setRow (cb + 1 + 1) #[.int .i64 1, .int .i64 1, .slice (some ⟨g, 0, none⟩) 4 cap])) := hd_ (by
  have h1 := HB0.out.grown hg1 HB0.out.size (fun k e => by cases e);exact h1.grown hk3 h1.size (fun k e => by cases e; have := HCB.out; omega))
 clear hr1 hg1 hk3 hne3 hr2 KA;go_wp2_with (with_reducible refine wpList_store_row rfl 36 _ _ rfl (cb + 1 + 1) _ rfl rfl 36 _ L3.out (imgSize3 _ _ _) (imgSz _ _ _ _ _ _) (imgOne _ _ _ _ _) ?_)
 rw [rounds_succ];go_wp2_with (first
  | (with_reducible refine wpList_load_row rfl 36 _ rfl (cb + 1 + 1) rfl 36 _ (0, 0) _ M3.out Tryz.underlying36 rfl (imgSize3 _ _ _) ?_)
  | (with_reducible refine wpList_store_row rfl 36 _ _ rfl (cb + 1) _ rfl rfl 36 _ M2.out (imgSize3 _ _ _) (imgSz _ _ _ _ _ _) (imgOne _ _ _ _ _) ?_))
 have hk4 := grownBy_setRow (w1.setRow (cb + 1 + 1) #[.int .i64 1, .int .i64 1, .slice (some ⟨g, 0, none⟩) 4 cap]) (cb + 1) #[.int .i64 1, .int .i64 1, .slice (some ⟨g, 0, none⟩) 4 cap];refine bodyPost_ret (results_cell_tmp (p := 6) (q := 7) (ty := 36) rfl _ _ (cb + 1) 36 _ (0, 0) _ _ rfl rfl (setRow_heap _ _ _ _ _ _ M2.out) Tryz.underlying36 rfl imgSize) rfl ?_;refine ⟨g, cap, rfl, ?_, HB2.out.grown hk4 HB2.out.size (fun k e => by cases e; have := HCB.out; omega)⟩;rw [HCB.out];exact World.ownsRow.kept HR2.out hk4 (.inr (own_ne HR2.out M2.out (by decide)).symm)
theorem lit.sl_mark (w : World) (k : IntKind) (l : List Int) (ty : TypeId) (fr : Nat × Nat) (n : Nat) (hn : l.length = n) (hm : n <= maxLen) (hw : ∀ x ∈ l, (Lit.int k x).wf = true) : Sl k (w.alloc (.cells (l.map (Value.int k)).toArray ty fr)) (some ⟨w.heap.size, 0, none⟩) n n l := by
 refine ⟨hn, Nat.le_refl _, hm, (fun h => by cases h), hw, .inr ⟨_, 0, rfl, fun i hi => ?_⟩⟩;rw [World.cell?_alloc_mark];simp [hi]
theorem lit_any (w : World) (ht : lit.Tab w) : Calls Tryz.prog 4 #[] w fun e w' => e = .returned (.bool true) /\ Below w.heap.size w w' := by
 have HT := hd_ ht;have C1 := hd_ (fill1_any ⟨65535, 0, 0, 65535⟩ w);clear ht;go_enter Tryz.func4, Tryz.ntmps4
 go_wp2_with fail
 refine C1.out.mono ?_;rintro e w1 ⟨g, cap, rfl, hr, hb⟩;have HR := hd_ hr;have HB := hd_ hb;clear hr hb C1;go_upto_region 2 with (fail)
 obtain ⟨w2, hw2⟩ : ∃ x, w1.alloc (.cells #[.int .i64 1, .int .i64 1, .slice (some ⟨g, 0, none⟩) 4 cap] 36) = x := ⟨_, rfl⟩;have k2 : w2.heap[w1.heap.size]? = some (.cells #[.int .i64 1, .int .i64 1, .slice (some ⟨g, 0, none⟩) 4 cap] 36 (0, 0)) := by rw [<- hw2]; exact heap_alloc_new _ _
 have b2 : Below w1.heap.size w1 w2 := by rw [<- hw2]; exact (Below.refl _ _).alloc (Nat.le_refl _) _
 rw [hw2];have K2 := hd_ k2;have HR2 := ownsRow_below HR.out b2;have HB2 := hd_ (HB.out.trans (b2.mono HB.out.size));have sl2 : Sl .u16 w2 (some ⟨g, 0, none⟩) 4 cap [65535, 0, 0, 65535] := Fresh.sl (l := [65535, 0, 0, 65535]) HR2 (by decide);have C2 := hd_ (lit.encode_any g cap w2 sl2 (HT.out.below HB2.out));clear k2 b2 hw2 HR2 sl2 HR HB;go_wp2_with (with_reducible refine wpList_load_row rfl 36 _ rfl w1.heap.size rfl 36 _ (0, 0) _ K2.out Tryz.underlying36 rfl (imgSize3 _ _ _) ?_)
 refine C2.out.mono ?_;rintro e w3 ⟨v, rfl, hv, hb⟩;obtain ⟨fb, fc, rfl, hfc⟩ := own_form hv (by decide);have HV := hd_ hv;have HB3 := hd_ (HB2.out.trans (hb.mono HB2.out.size));clear hv hb C2 K2;go_upto_region 3 with (fail)
 obtain ⟨w4, hw4⟩ : ∃ x, w3.alloc (.cells (lit.pgm.map (Value.int .u8)).toArray 5 (12, 13)) = x := ⟨_, rfl⟩;have b4 : Below w3.heap.size w3 w4 := by rw [<- hw4]; exact (Below.refl _ _).alloc (Nat.le_refl _) _
 have sl4 : Sl .u8 w4 (some ⟨w3.heap.size, 0, none⟩) 12 12 lit.pgm := by rw [<- hw4]; exact lit.sl_mark w3 .u8 lit.pgm _ _ 12 rfl (by decide) (by decide)
 have C4 := hd_ (lit.decode_any w3.heap.size 12 w4 sl4);have HB4 := hd_ (HB3.out.trans (b4.mono HB3.out.size));have HV4 := hd_ (ownsRow_below HV.out b4);have HW4 := hd_ hw4;have kc : (convert 22 22 (.slice (some ⟨w3.heap.size, 0, none⟩) 12 12)).run Tryz.prog (w3.alloc (.cells #[.int .u8 80, .int .u8 53, .int .u8 32, .int .u8 49, .int .u8 32, .int .u8 49, .int .u8 32, .int .u8 50, .int .u8 53, .int .u8 53, .int .u8 32, .int .u8 255] 5)) = .ok (.slice (some ⟨w3.heap.size, 0, none⟩) 12 12) w4 :=
  (Lib.run_convert_bytes_const w3 22 5 _ 12 12 Tryz.underlying22 Tryz.underlying5).trans (by rw [<- hw4]; rfl)
 clear b4 sl4 HV hw4;go_wp2_with fail
 refine C4.out.mono ?_;rintro e w5 ⟨pb, pc, rfl, hp, hb5⟩;have hv5 := ownsRow_below HV4.out hb5;have HB5 := hd_ (HB4.out.trans (hb5.mono HB4.out.size));have HP := hd_ hp;have HV5 := hd_ hv5;clear hp hb5 hv5 kc C4 HV4 HW4;go_upto_region 4 with (fail)
 obtain ⟨w6, hw6⟩ : ∃ x, w5.alloc (.cells #[.int .i64 1, .int .i64 1, .slice (some ⟨pb, 0, none⟩) 4 pc] 36) = x := ⟨_, rfl⟩;have k6 : w6.heap[w5.heap.size]? = some (.cells #[.int .i64 1, .int .i64 1, .slice (some ⟨pb, 0, none⟩) 4 pc] 36 (0, 0)) := by rw [<- hw6]; exact heap_alloc_new _ _
 have b6 : Below w5.heap.size w5 w6 := by rw [<- hw6]; exact (Below.refl _ _).alloc (Nat.le_refl _) _
 rw [hw6];have hp6 := ownsRow_below HP.out b6;have slp : Sl .u16 w6 (some ⟨pb, 0, none⟩) 4 pc [65535, 65535, 65535, 65535] := Fresh.sl (l := [65535, 65535, 65535, 65535]) hp6 (by decide);have slv : Sl .u8 w6 (some ⟨fb, 0, none⟩) 14 fc lit.file := Fresh.sl (ownsRow_below HV5.out b6) (by decide);have kc : (convert 22 9 (.slice (some ⟨fb, 0, none⟩) 14 fc)).run Tryz.prog w6 = .ok (.string ⟨#[80, 54, 10, 49, 32, 49, 10, 50, 53, 53, 10, 255, 0, 0]⟩) w6 := lit.conv_str slv (by decide);have c2 := (cr_ w6 2 k6 (Value.slice (some ⟨pb, 0, none⟩) 4 pc) rfl);obtain ⟨_, _, ee, hcell⟩ := slp.cells (by decide);cases ee;have z2 := (hcell 2 (by decide)).trans (show _ = some (Value.int .u16 65535) from rfl);rw [Nat.zero_add] at z2;have hpc := slp.fits;have hpc2 : ¬ pc = 2 := by omega
 have HB6 := hd_ (HB5.out.trans (b6.mono HB5.out.size));clear k6 b6 hw6 hp6 slp slv hcell HP HV5 hpc;go_wp2_with fail
 go_ret
 exact ⟨rfl, HB6.out⟩
def nats (ls : List Nat) : List Int := ls.map fun (x : Nat) => (x : Int)
theorem nats_length (ls : List Nat) : (nats ls).length = ls.length := by simp [nats]
theorem nats_get (ls : List Nat) (i : Nat) : (nats ls).getD i 0 = (ls.getD i 0 : Nat) := by
 unfold nats;rw [List.getD_eq_getElem?_getD, List.getD_eq_getElem?_getD, List.getElem?_map];cases ls[i]? <;> rfl
theorem nats_append (a b : List Nat) : nats (a ++ b) = nats a ++ nats b := by simp [nats]
theorem nats_wf (ls : List Nat) (h : ∀ x ∈ ls, x <= 1099511627776) : ∀ x ∈ nats ls, (Lit.int .i64 x).wf = true := by
 intro x hx;obtain ⟨y, hy, rfl⟩ := List.mem_map.1 hx;have := h y hy;simp [Lit.wf, IntKind.min, IntKind.max, IntKind.bits, IntKind.signed];omega
theorem pf.kraft_snoc (ls : List Nat) (l : Nat) : pf.kraft (ls ++ [l]) = pf.kraft ls + pf.part l := by simp [pf.kraft]
theorem take_snocN {ls : List Nat} {i : Nat} (h : i < ls.length) : ls.take (i + 1) = ls.take i ++ [ls.getD i 0] := by
 rw [List.take_add_one, List.getD_eq_getElem?_getD, List.getElem?_eq_getElem h];rfl
theorem pf.kraft_take {ls : List Nat} {i : Nat} (h : i < ls.length) : pf.kraft (ls.take (i + 1)) = pf.kraft (ls.take i) + pf.part (ls.getD i 0) := by
 rw [take_snocN h, pf.kraft_snoc]
theorem pf.part_le (l : Nat) : pf.part l <= 32768 := by
 unfold pf.part;split
 ·omega
 ·have : (2 : Nat) ^ (16 - l) <= 2 ^ 15 := Nat.pow_le_pow_right (by decide) (by omega)
  omega
theorem pf.kraft_le (ls : List Nat) : pf.kraft ls <= 32768 * ls.length := by
 induction ls with
 | nil => simp [pf.kraft]
 | cons a r ih =>
  have := pf.part_le a;simp only [pf.kraft, List.map_cons, List.sum_cons, List.length_cons] at ih ⊢;omega
theorem room_any (a : Option Addr) (n cap : Nat) (ls : List Nat) (w : World) (h : Sl .i64 w a n cap (nats ls)) (hn : n <= 4096) (hle : ∀ l ∈ ls, l <= 16) :
  Calls Tryz.prog 145 #[.slice a n cap] w fun e w' => e = .returned (.tuple #[.int .i64 (65536 - (pf.kraft ls : Int)), .int .i64 0]) /\ w = w' := by
 have hl : ls.length = n := by have := h.len; rwa [nats_length] at this
 have HS := hd_ h;have HL := hd_ hl;have HLE := hd_ hle;have hfit := h.fits;clear h hl hle;go_enter Tryz.func145, Tryz.ntmps145
 go_wp2_with fail
 go_loopg [4, 6, 12] n (fun gk s4 s6 s12 wr => w = wr /\ ∃ i : Nat, i <= n /\ gk = n - i /\ s4 = .int .i64 (65536 - (pf.kraft (ls.take i) : Int)) /\ s12 = .int .i64 (i : Nat))
 case atStart => exact ⟨rfl, 0, Nat.zero_le _, rfl, rfl, by go_num⟩
 case round =>
  obtain ⟨rfl, i, hi, hg, rfl, rfl⟩ := hrel;have Hg := hd_ hg;clear hg;by_cases hlt : i < n
  ·obtain ⟨b, off, rfl, hc⟩ := HS.out.cells (by omega)
   have k0 := hc i hlt;rw [nats_get] at k0;have h16 := HLE.out _ (pf.getD_mem (ls := ls) (s := i) (by rw [HL.out]; exact hlt));have HT := hd_ (pf.kraft_take (ls := ls) (i := i) (by rw [HL.out]; exact hlt));have hk := pf.kraft_le (ls.take i);rw [List.length_take, HL.out] at hk;obtain ⟨l, hl⟩ : ∃ l, ls.getD i 0 = l := ⟨_, rfl⟩;rw [hl] at k0 h16 HT;obtain ⟨q, hq⟩ : ∃ q, pf.kraft (ls.take i) = q := ⟨_, rfl⟩;rw [hq] at hk HT ⊢;have hi1 : (i : Int) < (n : Int) := (by omega);have hic : ¬ cap = i := (by omega);have hq2 : q <= 134217728 := (by omega);clear hc hl hq hk;by_cases hl0 : 0 < l
   ·obtain ⟨s, hs⟩ : ∃ s, 16 - l = s := ⟨_, rfl⟩
    have hs1 : (16 : Int) - (l : Int) = (s : Int) := (by omega);obtain ⟨p2, hp⟩ : ∃ p2, 2 ^ s = p2 := ⟨_, rfl⟩;have hp2 : p2 <= 32768 := by
     have : 2 ^ s <= 2 ^ 15 := Nat.pow_le_pow_right (by decide) (by omega);omega
    have p1 : IntKind.i64.wrap (2 ^ s) = (p2 : Int) := by
     have e1 : ((2 : Int) ^ s) = (p2 : Int) := (by rw [<- hp]; simp);rw [e1];exact i64i (by omega)
    have HP : Hid (pf.part l = p2) := hd_ (by unfold pf.part; rw [if_neg (by omega), hs]; exact hp);have hs16 : s <= 16 := (by omega);clear hp hs;go_wp2_with fail
    go_roundg (n - (i + 1))
    case measure => have := Hg.out; omega
    case rel => exact ⟨rfl, i + 1, by omega, rfl, by rw [HT.out, HP.out]; exact congrArg (Value.int .i64) (by omega), by go_num⟩
   ·obtain rfl : l = 0 := by omega
    go_wp2_with fail
    go_roundg (n - (i + 1))
    case measure => have := Hg.out; omega
    case rel => exact ⟨rfl, i + 1, by omega, rfl, congrArg (fun z : Nat => Value.int .i64 (65536 - (z : Int))) HT.out.symm, by go_num⟩
  ·obtain rfl : i = n := by omega
   have ht : ls.take i = ls := List.take_of_length_le (Nat.le_of_eq HL.out);rw [ht];go_wp2_with fail
   go_ret2
   exact ⟨rfl, rfl⟩
theorem checked_any (a : Option Addr) (n cap : Nat) (ls : List Nat) (w : World) (h : Sl .i64 w a n cap (nats ls)) (hn : n <= 4096) (hok : pf.Ok ls) :
  Calls Tryz.prog 135 #[.slice a n cap] w fun e w' => e = .returned (.int .i64 0) /\ w = w' := by
 have CR := hd_ (room_any a n cap ls w h hn hok.le);have hk := hok.room;obtain ⟨q, hq⟩ : ∃ q, pf.kraft ls = q := ⟨_, rfl⟩;rw [hq] at hk CR;obtain ⟨r, hr⟩ : ∃ r : Nat, 65536 - q = r := ⟨_, rfl⟩;have e : (65536 - (q : Int)) = (r : Int) := by omega
 rw [e] at CR;have hr0 : decide ((r : Int) < 0) = false := by simp
 clear h hok hq hk hr e;go_enter Tryz.func135, Tryz.ntmps135
 go_wp2_with fail
 refine CR.out.mono ?_;rintro e w1 ⟨rfl, rfl⟩;go_wp2_with fail
 go_ret
 exact ⟨rfl, rfl⟩
end Go.Proofs.YthpckmcgbmfmcaaGreatDoor
namespace Go.Proofs.YthpckmcgbmfmcaaGreatDoor
namespace so
section
variable {α : Type} {key : α -> Nat}
def sw (f : Nat -> α) (i j : Nat) : Nat -> α := fun k => if k = j then f i else if k = i then f j else f k
def Srt (key : α -> Nat) (f : Nat -> α) (a b : Nat) : Prop := ∀ i j, a <= i -> i < j -> j < b -> key (f i) <= key (f j)
theorem Srt.at {f : Nat -> α} {a b i j : Nat} (h : Srt key f a b) (h1 : a <= i) (h2 : i <= j) (h3 : j < b) : key (f i) <= key (f j) := by
 rcases Nat.eq_or_lt_of_le h2 with rfl | h2
 ·exact Nat.le_refl _
 ·exact h i j h1 h2 h3
theorem Srt.part {f : Nat -> α} {a b a' b' : Nat} (h : Srt key f a b) (h1 : a <= a') (h2 : b' <= b) : Srt key f a' b' := fun i j k1 k2 k3 => h i j (by omega) k2 (by omega)
def movR (f : Nat -> α) (a k : Nat) : Nat -> α := fun x => if a <= x /\ x < k then f (x + 1) else if x = k then f a else f x
theorem movR_zero (f : Nat -> α) (a : Nat) : movR f a a = f := by
 funext x
 unfold movR;rw [if_neg (by omega)];split
 ·rename_i h; rw [h]
 ·rfl
theorem movR_step (f : Nat -> α) {a k : Nat} (h : a <= k) : sw (movR f a k) k (k + 1) = movR f a (k + 1) := by
 funext x
 unfold sw movR;by_cases h1 : x = k + 1
 ·subst h1
  rw [if_pos rfl, if_neg (by omega), if_pos rfl, if_neg (by omega), if_pos rfl]
 ·rw [if_neg h1]
  by_cases h2 : x = k
  ·subst h2
   rw [if_pos rfl, if_neg (by omega), if_neg (by omega), if_pos (by omega)]
  ·rw [if_neg h2]
   by_cases h3 : a <= x /\ x < k
   ·rw [if_pos h3, if_pos (by omega)]
   ·rw [if_neg h3, if_neg h2, if_neg (by omega), if_neg (by omega)]
def movL (f : Nat -> α) (m k : Nat) : Nat -> α := fun x => if k < x /\ x <= m then f (x - 1) else if x = k then f m else f x
theorem movL_zero (f : Nat -> α) (m : Nat) : movL f m m = f := by
 funext x
 unfold movL;rw [if_neg (by omega)];split
 ·rename_i h; rw [h]
 ·rfl
theorem movL_step (f : Nat -> α) {m k : Nat} (h : k + 1 <= m) : sw (movL f m (k + 1)) (k + 1) k = movL f m k := by
 funext x
 unfold sw movL;by_cases h1 : x = k
 ·subst h1
  rw [if_pos rfl, if_neg (by omega), if_pos rfl, if_neg (by omega), if_pos rfl]
 ·rw [if_neg h1]
  by_cases h2 : x = k + 1
  ·subst h2
   rw [if_pos rfl, if_neg (by omega), if_neg (by omega), if_pos (by omega)];rfl
  ·rw [if_neg h2]
   by_cases h3 : k + 1 < x /\ x <= m
   ·rw [if_pos h3, if_pos (by omega)]
   ·rw [if_neg h3, if_neg h2, if_neg (by omega), if_neg h1]
theorem merge_first {f : Nat -> α} {a b i : Nat} (hs : Srt key f (a + 1) b) (h1 : a + 1 <= i) (h2 : i <= b) (hl : ∀ k, a + 1 <= k -> k < i -> key (f k) <= key (f a)) (hg : ∀ k, i <= k -> k < b -> key (f a) <= key (f k)) : Srt key (movR f a (i - 1)) a b := by
 intro x y k1 k2 k3;unfold movR;by_cases e1 : a <= x /\ x < i - 1
 ·rw [if_pos e1]
  by_cases e2 : a <= y /\ y < i - 1
  ·rw [if_pos e2]
   exact hs.at (by omega) (by omega) (by omega)
  ·rw [if_neg e2]
   by_cases e3 : y = i - 1
   ·rw [if_pos e3]
    exact hl _ (by omega) (by omega)
   ·rw [if_neg e3]
    exact hs.at (by omega) (by omega) (by omega)
 ·rw [if_neg e1]
  by_cases e2 : x = i - 1
  ·rw [if_pos e2, if_neg (by omega), if_neg (by omega)]
   exact hg _ (by omega) (by omega)
  ·rw [if_neg e2, if_neg (by omega), if_neg (by omega)]
   exact hs.at (by omega) (by omega) (by omega)
theorem merge_last {f : Nat -> α} {a m i : Nat} (hs : Srt key f a m) (h1 : a <= i) (h2 : i <= m) (hl : ∀ k, a <= k -> k < i -> key (f k) <= key (f m)) (hg : ∀ k, i <= k -> k < m -> key (f m) <= key (f k)) : Srt key (movL f m i) a (m + 1) := by
 intro x y k1 k2 k3;unfold movL;by_cases e1 : i < x /\ x <= m
 ·rw [if_pos e1, if_pos (by omega)]
  exact hs.at (by omega) (by omega) (by omega)
 ·rw [if_neg e1]
  by_cases e2 : x = i
  ·rw [if_pos e2, if_pos (by omega)]
   exact hg _ (by omega) (by omega)
  ·rw [if_neg e2]
   by_cases e3 : i < y /\ y <= m
   ·rw [if_pos e3]
    exact hs.at (by omega) (by omega) (by omega)
   ·rw [if_neg e3]
    by_cases e4 : y = i
    ·rw [if_pos e4]
     exact hl _ (by omega) (by omega)
    ·rw [if_neg e4]
     exact hs.at (by omega) (by omega) (by omega)
structure Ins (key : α -> Nat) (f : Nat -> α) (a i j : Nat) : Prop where
 oth : ∀ x y, a <= x -> x < y -> y <= i -> x ≠ j -> y ≠ j -> key (f x) <= key (f y)
 up : ∀ y, j < y -> y <= i -> key (f j) <= key (f y)
theorem Ins.start {f : Nat -> α} {a i : Nat} (h : Srt key f a i) : Ins key f a i i := ⟨fun x y h1 h2 h3 _ h5 => h x y h1 h2 (by omega), fun y h1 h2 => by omega⟩
theorem Ins.step {f : Nat -> α} {a i j : Nat} (h : Ins key f a i (j + 1)) (ha : a <= j) (hi : j + 1 <= i) (hlt : key (f (j + 1)) < key (f j)) : Ins key (sw f (j + 1) j) a i j := by
 constructor
 ·intro x y h1 h2 h3 h4 h5
  unfold sw;rw [if_neg h4, if_neg h5];by_cases e1 : x = j + 1
  ·rw [if_pos e1, if_neg (by omega)]
   exact h.oth j y ha (by omega) h3 (by omega) (by omega)
  ·rw [if_neg e1]
   by_cases e2 : y = j + 1
   ·rw [if_pos e2]
    exact h.oth x j h1 (by omega) (by omega) (by omega) (by omega)
   ·rw [if_neg e2]
    exact h.oth x y h1 h2 h3 (by omega) (by omega)
 ·intro y h1 h2
  unfold sw;rw [if_pos rfl, if_neg (by omega)];by_cases e1 : y = j + 1
  ·rw [if_pos e1]
   exact Nat.le_of_lt hlt
  ·rw [if_neg e1]
   exact h.up y (by omega) h2
theorem Ins.stop {f : Nat -> α} {a i j : Nat} (h : Ins key f a i j) (hj : j <= i) (hs : j = a \/ key (f (j - 1)) <= key (f j)) : Srt key f a (i + 1) := by
 intro x y h1 h2 h3;by_cases e1 : x = j
 ·rw [e1]
  exact h.up y (by omega) (by omega)
 ·by_cases e2 : y = j
  ·rcases hs with hs | hs
   ·omega
   ·rw [e2]
    rcases Nat.lt_or_ge x (j - 1) with h4 | h4
    ·exact Nat.le_trans (h.oth x (j - 1) h1 h4 (by omega) (by omega) (by omega)) hs
    ·rw [show x = j - 1 by omega]
     exact hs
  ·exact h.oth x y h1 h2 (by omega) e1 e2
def swR (f : Nat -> α) (a b n : Nat) : Nat -> α := fun x => if a <= x /\ x < a + n then f (b + (x - a)) else if b <= x /\ x < b + n then f (a + (x - b)) else f x
theorem swR_zero (f : Nat -> α) (a b : Nat) : swR f a b 0 = f := by
 funext x
 unfold swR;rw [if_neg (by omega), if_neg (by omega)]
theorem swR_step (f : Nat -> α) {a b n m : Nat} (h : n < m) (hab : a + m <= b) : sw (swR f a b n) (a + n) (b + n) = swR f a b (n + 1) := by
 funext x
 unfold sw swR;by_cases h1 : x = b + n
 ·subst h1
  rw [if_pos rfl, if_neg (by omega), if_neg (by omega), if_neg (by omega), if_pos (by omega)];congr 1
  omega
 ·rw [if_neg h1]
  by_cases h2 : x = a + n
  ·subst h2
   rw [if_pos rfl, if_neg (by omega), if_neg (by omega), if_pos (by omega)];congr 1
   omega
  ·rw [if_neg h2]
   by_cases h3 : a <= x /\ x < a + n
   ·rw [if_pos h3, if_pos (by omega)]
   ·rw [if_neg h3]
    by_cases h4 : b <= x /\ x < b + n
    ·rw [if_pos h4, if_neg (by omega), if_pos (by omega)]
    ·rw [if_neg h4, if_neg (by omega), if_neg (by omega)]
def rot (f : Nat -> α) (a m b : Nat) : Nat -> α := fun x => if a <= x /\ x < a + (b - m) then f (m + (x - a)) else if a + (b - m) <= x /\ x < b then f (a + (x - (a + (b - m)))) else f x
theorem rot_same (f : Nat -> α) {a m b : Nat} (h : b - m = m - a) (h1 : a <= m) (h2 : m <= b) : swR f a m (m - a) = rot f a m b := by
 funext x
 simp only [swR, rot]
 repeat' split
 all_goals first
  | rfl
  | (exfalso; omega)
  | (congr 1; omega)
theorem rot_left (f : Nat -> α) {a m b j : Nat} (h : b - m = j) (h1 : a + j <= m) (h2 : m <= b) : rot (swR f a m j) (a + j) m b = rot f a m b := by
 subst h
 funext x
 simp only [swR, rot]
 repeat' split
 all_goals first
  | rfl
  | (exfalso; omega)
  | (congr 1; omega)
theorem rot_right (f : Nat -> α) {a m b i : Nat} (h : m - a = i) (h1 : a <= m) (h2 : m + i <= b) : rot (swR f a (b - i) i) a m (b - i) = rot f a m b := by
 subst h
 funext x
 simp only [swR, rot]
 repeat' split
 all_goals first
  | rfl
  | (exfalso; omega)
  | (congr 1; omega)
structure Cut (key : α -> Nat) (f : Nat -> α) (a m b s e : Nat) : Prop where
 inS : a <= s /\ s <= m
 inE : m <= e /\ e <= b
 lo : s < m -> m < e -> key (f (e - 1)) <= key (f s)
 hi : a < s -> e < b -> key (f (s - 1)) <= key (f e)
theorem Cut.halves {f : Nat -> α} {a m b s e : Nat} (h : Cut key f a m b s e) (h1 : Srt key f a m) (h2 : Srt key f m b) (mid : Nat) (hm : mid = s + (e - m)) :
  (∀ x y, a <= x -> x < mid -> mid <= y -> y < b -> key (rot f s m e x) <= key (rot f s m e y)) /\ Srt key (rot f s m e) a s /\ Srt key (rot f s m e) s mid /\ Srt key (rot f s m e) mid e /\ Srt key (rot f s m e) e b := by
 subst hm;obtain ⟨⟨a1, a2⟩, ⟨a3, a4⟩, lo, hi⟩ := h;have r1 : ∀ x, x < s -> rot f s m e x = f x := fun x hx => by unfold rot; rw [if_neg (by omega), if_neg (by omega)]
 have r2 : ∀ x, s <= x -> x < s + (e - m) -> rot f s m e x = f (m + (x - s)) := fun x hx hx2 => by unfold rot; rw [if_pos (by omega)]
 have r3 : ∀ x, s + (e - m) <= x -> x < e -> rot f s m e x = f (s + (x - (s + (e - m)))) := fun x hx hx2 => by unfold rot; rw [if_neg (by omega), if_pos (by omega)]
 have r4 : ∀ x, e <= x -> rot f s m e x = f x := fun x hx => by unfold rot; rw [if_neg (by omega), if_neg (by omega)]
 refine ⟨fun x y k1 k2 k3 k4 => ?_, fun x y k1 k2 k3 => ?_, fun x y k1 k2 k3 => ?_, fun x y k1 k2 k3 => ?_, fun x y k1 k2 k3 => ?_⟩
 ·rcases Nat.lt_or_ge x s with e1 | e1
  ·rw [r1 x e1]
   rcases Nat.lt_or_ge y e with e2 | e2
   ·rw [r3 y k3 e2]
    exact h1.at k1 (by omega) (by omega)
   ·rw [r4 y e2]
    exact Nat.le_trans (h1.at k1 (by omega : x <= s - 1) (by omega)) (Nat.le_trans (hi (by omega) (by omega)) (h2.at a3 e2 k4))
  ·rw [r2 x e1 k2]
   rcases Nat.lt_or_ge y e with e2 | e2
   ·rw [r3 y k3 e2]
    exact Nat.le_trans (h2.at (by omega) (by omega : m + (x - s) <= e - 1) (by omega)) (Nat.le_trans (lo (by omega) (by omega)) (h1.at a1 (by omega) (by omega)))
   ·rw [r4 y e2]
    exact h2.at (by omega) (by omega) k4
 ·rw [r1 x (by omega), r1 y k3]
  exact h1 x y k1 k2 (by omega)
 ·rw [r2 x k1 (by omega), r2 y (by omega) k3]
  exact h2 _ _ (by omega) (by omega) (by omega)
 ·rw [r3 x k1 (by omega), r3 y (by omega) k3]
  exact h1 _ _ (by omega) (by omega) (by omega)
 ·rw [r4 x k1, r4 y (by omega)]
  exact h2 _ _ (by omega) (by omega) (by omega)
end
section
variable {α : Type}
def at' (d : α) (t : List α) : Nat -> α := fun k => t.getD k d
structure PermIn (d : α) (a b : Nat) (t t' : List α) : Prop where
 perm : t'.Perm t
 out : ∀ k, k < a \/ b <= k -> t'.getD k d = t.getD k d
theorem PermIn.refl (d : α) (a b : Nat) (t : List α) : PermIn d a b t t := ⟨.refl _, fun _ _ => rfl⟩
theorem PermIn.trans {d : α} {a b : Nat} {t u v : List α} (h : PermIn d a b t u) (k : PermIn d a b u v) : PermIn d a b t v := ⟨k.perm.trans h.perm, fun i hi => (k.out i hi).trans (h.out i hi)⟩
theorem PermIn.wide {d : α} {a b a' b' : Nat} {t u : List α} (h : PermIn d a b t u) (h1 : a' <= a) (h2 : b <= b') : PermIn d a' b' t u := ⟨h.perm, fun i hi => h.out i (by omega)⟩
def swL (d : α) (t : List α) (i j : Nat) : List α := (t.set i (t.getD j d)).set j (t.getD i d)
theorem swL_at (d : α) (t : List α) {i j : Nat} (hi : i < t.length) (hj : j < t.length) : at' d (swL d t i j) = sw (at' d t) i j := by
 funext k
 unfold at' swL sw;simp only [List.getD_eq_getElem?_getD, List.getElem?_set, List.length_set];by_cases h1 : k = j
 ·subst h1
  rw [if_pos rfl, if_pos rfl, if_pos hj];rfl
 ·rw [if_neg (fun h => h1 h.symm), if_neg h1]
  by_cases h2 : k = i
  ·subst h2
   rw [if_pos rfl, if_pos rfl, if_pos hi];rfl
  ·rw [if_neg (fun h => h2 h.symm), if_neg h2]
theorem swL_perm (d : α) (t : List α) {i j : Nat} (hi : i < t.length) (hj : j < t.length) : (swL d t i j).Perm t := by
 have gen : ∀ (t : List α) (i j : Nat), i < j -> j < t.length -> ((t.set i (t.getD j d)).set j (t.getD i d)).Perm t := by
  intro t i j hij hj;have e : t = t.take i ++ t.getD i d :: ((t.drop (i + 1)).take (j - i - 1) ++ t.getD j d :: t.drop (j + 1)) := by
   apply List.ext_getElem?
   intro k;rw [List.getElem?_append, List.length_take, Nat.min_eq_left (by omega)];by_cases h1 : k < i
   ·rw [if_pos h1, List.getElem?_take_of_lt h1]
   ·rw [if_neg h1]
    by_cases h2 : k = i
    ·subst h2
     rw [Nat.sub_self, List.getElem?_cons_zero, List.getD_eq_getElem?_getD, List.getElem?_eq_getElem (by omega)];rfl
    ·obtain ⟨q, hq⟩ : ∃ q, k - i = q + 1 := ⟨k - i - 1, by omega⟩
     rw [hq, List.getElem?_cons_succ, List.getElem?_append, List.length_take, List.length_drop, Nat.min_eq_left (by omega)];by_cases h3 : q < j - i - 1
     ·rw [if_pos h3, List.getElem?_take_of_lt h3, List.getElem?_drop]
      congr 1
      omega
     ·rw [if_neg h3]
      by_cases h4 : q = j - i - 1
      ·rw [h4, Nat.sub_self, List.getElem?_cons_zero, List.getD_eq_getElem?_getD, show k = j by omega, List.getElem?_eq_getElem hj]
       rfl
      ·obtain ⟨r, hr⟩ : ∃ r, q - (j - i - 1) = r + 1 := ⟨q - (j - i - 1) - 1, by omega⟩
       rw [hr, List.getElem?_cons_succ, List.getElem?_drop];congr 1
       omega
  generalize hx : t.getD i d = x at e ⊢;generalize hy : t.getD j d = y at e ⊢;generalize hA : t.take i = A at e;generalize hB : (t.drop (i + 1)).take (j - i - 1) = B at e;generalize hC : t.drop (j + 1) = C at e;have lA : A.length = i := by rw [<- hA, List.length_take]; omega
  have lB : B.length = j - i - 1 := by rw [<- hB, List.length_take, List.length_drop]; omega
  have e2 : (t.set i y).set j x = A ++ y :: (B ++ x :: C) := by
   rw [e, List.set_append_right _ _ (by omega), lA, Nat.sub_self, List.set_cons_zero, List.set_append_right _ _ (by omega), lA];obtain ⟨q, hq⟩ : ∃ q, j - i = q + 1 := ⟨j - i - 1, by omega⟩;rw [hq, List.set_cons_succ, List.set_append_right _ _ (by omega), lB, show q - (j - i - 1) = 0 by omega, List.set_cons_zero]
  rw [e2, e];refine List.Perm.append_left _ ?_;have p1 : (y :: (B ++ x :: C)).Perm (y :: x :: (B ++ C)) := List.Perm.cons _ List.perm_middle;have p2 : (x :: (B ++ y :: C)).Perm (x :: y :: (B ++ C)) := List.Perm.cons _ List.perm_middle;exact p1.trans ((List.Perm.swap _ _ _).trans p2.symm)
 rcases Nat.lt_trichotomy i j with h | h | h
 ·exact gen t i j h hj
 ·subst h
  unfold swL;have : (t.set i (t.getD i d)).set i (t.getD i d) = t := by
   rw [List.set_set, List.getD_eq_getElem?_getD, List.getElem?_eq_getElem hi];exact List.set_getElem_self hi
  rw [this]
 ·have := gen t j i h hi
  unfold swL
  rwa [List.set_comm _ _ (by omega)]
theorem PermIn.sw {d : α} {a b : Nat} {t u : List α} (h : PermIn d a b t u) {i j : Nat} (hi : a <= i /\ i < b) (hj : a <= j /\ j < b) (hb : b <= u.length) : PermIn d a b t (swL d u i j) := by
 refine ⟨(swL_perm d u (by omega) (by omega)).trans h.perm, fun k hk => ?_⟩;have := congrFun (swL_at d u (i := i) (j := j) (by omega) (by omega)) k;unfold at' so.sw at this;rw [this, if_neg (by omega), if_neg (by omega)];exact h.out k hk
theorem PermIn.mem {d : α} {a b : Nat} {t t' : List α} (h : PermIn d a b t t') (hb : b <= t.length) {k : Nat} (h1 : a <= k) (h2 : k < b) : ∃ j, a <= j /\ j < b /\ t'.getD k d = t.getD j d := by
 have hl := h.perm.length_eq;have part : ∀ (u : List α), b <= u.length -> u = u.take a ++ ((u.drop a).take (b - a) ++ u.drop b) := by
  intro u hu;rw [show u.drop b = (u.drop a).drop (b - a) by rw [List.drop_drop]; congr 1; omega, List.take_append_drop, List.take_append_drop]
 have e1 : t'.take a = t.take a := by
  apply List.ext_getElem?
  intro i;rcases Nat.lt_or_ge i a with hi | hi
  ·rw [List.getElem?_take_of_lt hi, List.getElem?_take_of_lt hi]
   have := h.out i (.inl hi)
   rwa [List.getD_eq_getElem?_getD, List.getD_eq_getElem?_getD, List.getElem?_eq_getElem (by omega), List.getElem?_eq_getElem (by omega), Option.getD_some, Option.getD_some, <- Option.some_inj, <- List.getElem?_eq_getElem (by omega), <- List.getElem?_eq_getElem (by omega)] at this
  ·rw [List.getElem?_eq_none (by rw [List.length_take]; omega), List.getElem?_eq_none (by rw [List.length_take]; omega)]
 have e2 : t'.drop b = t.drop b := by
  apply List.ext_getElem?
  intro i;rw [List.getElem?_drop, List.getElem?_drop];rcases Nat.lt_or_ge (b + i) t.length with hi | hi
  ·have := h.out (b + i) (.inr (by omega))
   rwa [List.getD_eq_getElem?_getD, List.getD_eq_getElem?_getD, List.getElem?_eq_getElem (by omega), List.getElem?_eq_getElem (by omega), Option.getD_some, Option.getD_some, <- Option.some_inj, <- List.getElem?_eq_getElem (by omega), <- List.getElem?_eq_getElem (by omega)] at this
  ·rw [List.getElem?_eq_none (by omega), List.getElem?_eq_none (by omega)]
 have p := h.perm;rw [part t' (by omega), part t hb, e1, e2, List.perm_append_left_iff, List.perm_append_right_iff] at p;have hm : t'.getD k d ∈ (t'.drop a).take (b - a) := by
  rw [List.mem_iff_getElem?];refine ⟨k - a, ?_⟩;rw [List.getElem?_take_of_lt (by omega), List.getElem?_drop, Nat.add_sub_cancel' h1, List.getD_eq_getElem?_getD, List.getElem?_eq_getElem (by omega)];rfl
 obtain ⟨j, hj⟩ := List.mem_iff_getElem?.1 (p.subset hm);have hjl : j < b - a := by
  have := (List.getElem?_eq_some_iff.1 hj).1;rw [List.length_take] at this;omega
 rw [List.getElem?_take_of_lt hjl, List.getElem?_drop] at hj;refine ⟨a + j, by omega, by omega, ?_⟩;rw [List.getD_eq_getElem?_getD (l := t), hj];rfl
theorem join_halves {key : α -> Nat} {d : α} {a mid b : Nat} {t u v : List α} (h0 : b <= t.length) (_ : a <= mid /\ mid <= b) (hh : ∀ x y, a <= x -> x < mid -> mid <= y -> y < b -> key (t.getD x d) <= key (t.getD y d))
  (hu : PermIn d a mid t u) (hus : Srt key (at' d u) a mid) (hv : PermIn d mid b u v) (hvs : Srt key (at' d v) mid b) : Srt key (at' d v) a b := by
 have hl := hu.perm.length_eq;intro x y k1 k2 k3;show key (v.getD x d) <= key (v.getD y d);rcases Nat.lt_or_ge y mid with e1 | e1
 ·rw [hv.out x (by omega), hv.out y (by omega)]
  exact hus x y k1 k2 e1
 ·rcases Nat.lt_or_ge x mid with e2 | e2
  ·rw [hv.out x (by omega)]
   obtain ⟨i, i1, i2, ei⟩ := hu.mem (by omega) k1 e2;obtain ⟨j, j1, j2, ej⟩ := hv.mem (by omega) e1 k3;rw [ei, ej, hu.out j (by omega)];exact hh i j i1 i2 j1 j2
  ·exact hvs x y e2 k2 k3
end
end so
end Go.Proofs.YthpckmcgbmfmcaaGreatDoor
namespace Go.Proofs.YthpckmcgbmfmcaaGreatDoor
open Go.RowKit Go.Sort
structure Cn where
 w : Nat
 a : Option Addr
 n : Nat
 c : Nat
def Cn.zero : Cn := ⟨0, none, 0, 0⟩
def Cn.cells (k : Cn) : List Value := [.int .i64 (k.w : Nat), .slice k.a k.n k.c]
theorem Cn.cells_one (k : Cn) : ∀ u ∈ k.cells, u.oneCell' = true := by
 intro u hu;simp [Cn.cells] at hu;rcases hu with rfl | rfl <;> rfl
def kRow (t : List Cn) : List Value := t.flatMap Cn.cells
theorem kRow_snoc (t : List Cn) (k : Cn) : kRow (t ++ [k]) = kRow t ++ k.cells := by simp [kRow]
theorem kRow_append (t u : List Cn) : kRow (t ++ u) = kRow t ++ kRow u := by simp [kRow]
theorem kRow_length (t : List Cn) : (kRow t).length = t.length * 2 := by
 induction t with
 | nil => rfl
 | cons a r ih =>
  show (a.cells ++ kRow r).length = _;rw [List.length_append, ih, List.length_cons];simp [Cn.cells];omega
theorem kRow_get : ∀ (t : List Cn) (i : Nat), (kRow t)[i]? = (t[i / 2]?).bind fun e => e.cells[i % 2]?
 | [], i => by simp [kRow]
 | a :: r, i => by
  show (a.cells ++ kRow r)[i]? = _;have hl : a.cells.length = 2 := rfl;rcases Nat.lt_or_ge i 2 with h | h
  ·rw [List.getElem?_append_left (by omega), show i / 2 = 0 by omega, show i % 2 = i by omega]
   rfl
  ·rw [List.getElem?_append_right (by omega), hl, kRow_get r (i - 2), show i / 2 = (i - 2) / 2 + 1 by omega, List.getElem?_cons_succ, show (i - 2) % 2 = i % 2 by omega]
def OwnK (base : Nat) (w : World) (v : Value) (t : List Cn) : Prop := w.ownsRow base 222 2 v t.length (kRow t)
theorem OwnK.below {base : Nat} {w w' : World} {v : Value} {t : List Cn} (h : OwnK base w v t) (hb : Below w.heap.size w w') : OwnK base w' v t := ownsRow_below h hb
def RowK (base : Nat) (w : World) (b cap : Nat) (t : List Cn) : Prop := OwnK base w (.slice (some ⟨b, 0, none⟩) t.length cap) t
theorem kRow_set (t : List Cn) (j : Nat) (e : Cn) (hj : j < t.length) : setL (kRow t) (2 * j) e.cells = kRow (t.set j e) := by
 have hl := kRow_length t;apply List.ext_getElem?
 intro i;simp only [Cn.cells, setL];rw [kRow_get, List.getElem?_set, List.getElem?_set, List.getElem?_set, kRow_get];simp only [List.length_set, hl];by_cases h : j = i / 2
 ·have hm : i = 2 * j \/ i = 2 * j + 1 := by omega
  rcases hm with rfl | rfl
  ·rw [show (2 * j) / 2 = j by omega, show (2 * j) % 2 = 0 by omega, if_neg (show ¬ (2 * j + 1 = 2 * j) by omega), if_pos rfl, if_pos (show 2 * j < t.length * 2 by omega), if_pos rfl, if_pos hj]
   rfl
  ·rw [show (2 * j + 1) / 2 = j by omega, show (2 * j + 1) % 2 = 1 by omega, if_pos rfl, if_pos (show 2 * j + 1 < t.length * 2 by omega), if_pos rfl, if_pos hj]
   rfl
 ·rw [if_neg h, if_neg (by omega), if_neg (by omega)]
theorem RowK.set {base : Nat} {w : World} {b cap : Nat} {t : List Cn} (h : RowK base w b cap t) (j : Nat) (hj : j < t.length) (e : Cn) : RowK base (w.setCells b (j * 2) e.cells) b cap (t.set j e) := by
 unfold RowK OwnK at h ⊢;rw [List.length_set];refine ⟨by rw [kRow_length, List.length_set], ?_⟩;rcases h.2 with ⟨h', _⟩ | ⟨g, cap', cur, h', h1, h2, h3, h4, h5, h6⟩
 ·cases h'
 ·simp only [Value.slice.injEq, Option.some.injEq, Addr.mk.injEq, and_true, true_and] at h'
  obtain ⟨rfl, rfl⟩ := h';refine .inr ⟨b, cap, _, rfl, h1, heap_setCells _ _ _ _ _ _ h2, h3, h4, ?_, ?_⟩
  ·simp only [List.size_toArray, setL_length, Array.length_toList]
   exact h5
  ·rw [List.toList_toArray, setL_take, h6, Nat.mul_comm, kRow_set t j e hj]
theorem RowK.block {base : Nat} {w : World} {b cap : Nat} {t : List Cn} (h : RowK base w b cap t) : base <= b /\ ∃ cur, w.heap[b]? = some (.cells cur 222 (0, 0)) /\ t.length * 2 <= cur.size /\ t.length <= cap /\ cap <= maxLen := by
 rcases h.2 with ⟨h', _⟩ | ⟨g, cap', cur, h', h1, h2, h3, h4, h5, h6⟩
 ·cases h'
 ·simp only [Value.slice.injEq, Option.some.injEq, Addr.mk.injEq, and_true, true_and] at h'
  obtain ⟨rfl, rfl⟩ := h';exact ⟨h1, cur, h2, by rw [h5]; omega, h3, h4⟩
theorem RowK.cell {base : Nat} {w : World} {b cap : Nat} {t : List Cn} (h : RowK base w b cap t) {j : Nat} {e : Cn} (he : t[j]? = some e) {f : Nat} (hf : f < 2) {u : Value} (hu : e.cells[f]? = some u) : w.cell? ⟨b, j * 2 + f, none⟩ = some u := by
 have h1 := World.ownsRow.cells h (g := b) rfl (j * 2 + f) u (by rw [kRow_get, show (j * 2 + f) / 2 = j by omega, he, show (j * 2 + f) % 2 = f by omega]; exact hu)
 rwa [Addr.add_mid, Nat.zero_add] at h1
theorem RowK.below {base : Nat} {w w' : World} {b cap : Nat} {t : List Cn} (h : RowK base w b cap t) (hb : Below w.heap.size w w') : RowK base w' b cap t := ownsRow_below h hb
theorem grownBy_setCells' (b : Nat) : ∀ (vs : List Value) (o : Nat) (w : World), w.grownBy (w.setCells b o vs) (some b)
 | [], _, w => World.grownBy.refl w _
 | v :: r, o, w => (grownBy_setCell3 w b o v).trans (grownBy_setCells' b r (o + 1) _)
def swW (w : World) (b x y : Nat) (cx cy : Cn) : World := (((w.setCell ⟨b, x * 2, none⟩ (.int .i64 (cy.w : Nat))).setCell ⟨b, x * 2 + 1, none⟩ (.slice cy.a cy.n cy.c)).setCell ⟨b, y * 2, none⟩ (.int .i64 (cx.w : Nat))).setCell ⟨b, y * 2 + 1, none⟩ (.slice cx.a cx.n cx.c)
theorem swW_eq (w : World) (b x y : Nat) (cx cy : Cn) : swW w b x y cx cy = (w.setCells b (x * 2) cy.cells).setCells b (y * 2) cx.cells := rfl
structure SwF (w : World) (b x y : Nat) (cx cy : Cn) : Prop where
 x0 : w.cell? ⟨b, x * 2, none⟩ = some (.int .i64 (cx.w : Nat))
 x1 : w.cell? ⟨b, x * 2 + 1, none⟩ = some (.slice cx.a cx.n cx.c)
 y0 : w.cell? ⟨b, y * 2, none⟩ = some (.int .i64 (cy.w : Nat))
 y1 : w.cell? ⟨b, y * 2 + 1, none⟩ = some (.slice cy.a cy.n cy.c)
 f0 : w.frozen? ⟨b, x * 2, none⟩ = false
 f1 : w.frozen? ⟨b, x * 2 + 1, none⟩ = false
 g0 : ((w.setCell ⟨b, x * 2, none⟩ (.int .i64 (cy.w : Nat))).setCell ⟨b, x * 2 + 1, none⟩ (.slice cy.a cy.n cy.c)).cell? ⟨b, y * 2, none⟩ = some (.int .i64 (cy.w : Nat))
 g1 : ((w.setCell ⟨b, x * 2, none⟩ (.int .i64 (cy.w : Nat))).setCell ⟨b, x * 2 + 1, none⟩ (.slice cy.a cy.n cy.c)).cell? ⟨b, y * 2 + 1, none⟩ = some (.slice cy.a cy.n cy.c)
 h0 : ((w.setCell ⟨b, x * 2, none⟩ (.int .i64 (cy.w : Nat))).setCell ⟨b, x * 2 + 1, none⟩ (.slice cy.a cy.n cy.c)).frozen? ⟨b, y * 2, none⟩ = false
 h1 : ((w.setCell ⟨b, x * 2, none⟩ (.int .i64 (cy.w : Nat))).setCell ⟨b, x * 2 + 1, none⟩ (.slice cy.a cy.n cy.c)).frozen? ⟨b, y * 2 + 1, none⟩ = false
theorem RowK.swF {base : Nat} {w : World} {b cap : Nat} {t : List Cn} (h : RowK base w b cap t) {x y : Nat} {cx cy : Cn} (hx : t[x]? = some cx) (hy : t[y]? = some cy) (hne : x ≠ y) : SwF w b x y cx cy := by
 have hxl := (List.getElem?_eq_some_iff.1 hx).1;have hr2 := h.set x hxl cy;have hcy2 : (t.set x cy)[y]? = some cy := by rw [List.getElem?_set_ne hne]; exact hy
 obtain ⟨_, cur, hcur, _⟩ := h.block;obtain ⟨_, cur2, hcur2, _⟩ := hr2.block;exact ⟨h.cell hx (f := 0) (by decide) rfl, h.cell hx (f := 1) (by decide) rfl, h.cell hy (f := 0) (by decide) rfl, h.cell hy (f := 1) (by decide) rfl,
  frozen_of_row w b _ _ _ hcur, frozen_of_row w b _ _ _ hcur, hr2.cell hcy2 (f := 0) (by decide) rfl, hr2.cell hcy2 (f := 1) (by decide) rfl, frozen_of_row _ b _ _ _ hcur2, frozen_of_row _ b _ _ _ hcur2⟩
theorem RowK.swW {base : Nat} {w : World} {b cap : Nat} {t : List Cn} (h : RowK base w b cap t) {x y : Nat} {cx cy : Cn} (hx : t[x]? = some cx) (hy : t[y]? = some cy) : RowK base (swW w b x y cx cy) b cap (so.swL Cn.zero t x y) /\ w.grownBy (Proofs.YthpckmcgbmfmcaaGreatDoor.swW w b x y cx cy) (some b) := by
 have hxl := (List.getElem?_eq_some_iff.1 hx).1;have hyl := (List.getElem?_eq_some_iff.1 hy).1;refine ⟨?_, (grownBy_setCells' b cy.cells (x * 2) w).trans (grownBy_setCells' b cx.cells (y * 2) _)⟩;have e : so.swL Cn.zero t x y = (t.set x cy).set y cx := by
  unfold so.swL;rw [List.getD_eq_getElem?_getD, List.getD_eq_getElem?_getD, hx, hy];rfl
 rw [e, swW_eq];exact (h.set x hxl cy).set y (by rw [List.length_set]; exact hyl) cx
def SortPost (base b cap x y : Nat) (t : List Cn) (w : World) (e : Ending) (w' : World) : Prop :=
 e = .returned (.tuple #[]) /\ ∃ t', so.PermIn Cn.zero x y t t' /\ so.Srt Cn.w (so.at' Cn.zero t') x y /\ RowK base w' b cap t' /\ w.grownBy w' (some b)
def MovePost (base b cap x y : Nat) (t : List Cn) (f : Nat -> Cn) (w : World) (e : Ending) (w' : World) : Prop :=
 e = .returned (.tuple #[]) /\ ∃ t', so.PermIn Cn.zero x y t t' /\ so.at' Cn.zero t' = f /\ RowK base w' b cap t' /\ w.grownBy w' (some b)
end Go.Proofs.YthpckmcgbmfmcaaGreatDoor
