/- Texts of this claim, joined. -/
import Derived.Test.YthpckmcgbmfmcaaGreatDoorM43
import Derived.Defers
import Derived.Recover
set_option maxRecDepth 100000
set_option maxHeartbeats 12800000
namespace Go.Proofs.YthpckmcgbmfmcaaGreatDoor
open Go.RowKit Go.Sort
def FixPost (w : World) (e : Ending) (w' : World) : Prop :=
 ∃ v1 v2, e = .returned (.tuple #[v1, v2]) /\ OwnN w.heap.size w' v1 df.fixL /\ OwnN w.heap.size w' v2 df.fixD /\ Below w.heap.size w w'
theorem sfixed_any (w : World) : Calls Tryz.prog 26 #[] w (FixPost w) := by
 go_enter Tryz.func26, Tryz.ntmps26
 go_wp2_with fail
 go_loopg [2, 4] 288 (fun gk s2 s4 wr => ∃ i : Nat, i <= 288 /\ gk = 288 - i /\ OwnN w.heap.size wr s2 (df.fixL.take i) /\ s4 = .int .i64 (i : Nat) /\ Below w.heap.size w wr)
 case atStart => exact ⟨0, Nat.zero_le _, rfl, World.ownsRow_nil _ _ _ _, by go_num, Below.refl _ _⟩
 case round =>
  obtain ⟨i, hi, hgk, ho, rfl, hb⟩ := hrel;have Hg := hd_ hgk;have HO := hd_ ho;have HB := hd_ hb;have hfl : df.fixL.length = 288 := by decide
  have htl : (df.fixL.take i).length = i := by rw [List.length_take, hfl]; omega
  obtain ⟨ra, rc, erv⟩ : ∃ a c, u2 = .slice a i c := by
   obtain ⟨a', c', e', _⟩ := own_slice' ho;exact ⟨a', c', by rw [<- htl]; exact e'⟩
  subst erv;clear hgk ho hb;by_cases hlt : i < 288
  ·have HTK := hd_ (take_snocN (ls := df.fixL) (i := i) (by rw [hfl]; exact hlt))
   have HTL : Hid ((df.fixL.take i).length <= 1099511627776) := hd_ (by rw [htl]; omega);clear hfl htl;rcases (show i < 144 \/ (144 <= i /\ i < 256) \/ (256 <= i /\ i < 280) \/ 280 <= i by omega) with hc | hc | hc | hc
   ·have y0 : df.fixL.getD i 0 = 8 := by rw [df.fixL_get i hlt]; first | rw [if_pos (by omega)] | rw [if_neg (by omega), if_pos (by omega)] | rw [if_neg (by omega), if_neg (by omega)]
    rw [y0] at HTK;have d1 : decide ((144 : Int) <= (i : Int)) = false := (by simp; omega);have d1n : decide (144 <= i) = false := (by simp; omega);have d2 : decide ((i : Int) < 256) = true := (by simp; omega);have d2n : decide (i < 256) = true := (by simp; omega);have d3 : decide ((256 : Int) <= (i : Int)) = false := (by simp; omega);have d3n : decide (256 <= i) = false := (by simp; omega);have d4 : decide ((i : Int) < 280) = true := (by simp; omega);have d4n : decide (i < 280) = true := (by simp; omega);have hb8 : Below wr.heap.size wr (wr.alloc (.cells #[.int .i64 8] 3)) := (Below.refl _ _).alloc (Nat.le_refl _) _;have HG8 : Hid ((wr.alloc (.cells #[.int .i64 8] 3)).heap[wr.heap.size]? = some (.cells #[.int .i64 ((8 : Nat) : Int)] 3 (0, 0))) := hd_ (heap_alloc_new wr _);have HO8 := hd_ (HO.out.below hb8);have HB8 := hd_ (HB.out.trans (hb8.mono HB.out.size));clear hb8 HO HB y0;go_wp2_with (at_builtin; go_must (refine wpList_of_append rfl (.tmp 23) (.tmp 25) 59 59 rfl (run_append_nat _ _ w.heap.size (.slice ra i rc) (df.fixL.take i) 8 HO8.out HTL.out HB8.out.size wr.heap.size HG8.out) ?_; rintro v9 w9 ⟨ho9, hg9, _⟩; have HO9 := hd_ ho9; have HG9 := hd_ hg9; clear ho9 hg9))
    have hob := own_nat HO8.out;have HB9 := hd_ (HB8.out.grown HG9.out HB8.out.size (fun k e => (hob k e).1));go_roundg (288 - (i + 1))
    case measure => have := Hg.out; omega
    case rel => exact ⟨i + 1, by omega, rfl, by rw [HTK.out]; exact HO9.out, by go_num, HB9.out⟩
   ·have y0 : df.fixL.getD i 0 = 9 := by rw [df.fixL_get i hlt]; first | rw [if_pos (by omega)] | rw [if_neg (by omega), if_pos (by omega)] | rw [if_neg (by omega), if_neg (by omega)]
    rw [y0] at HTK;have d1 : decide ((144 : Int) <= (i : Int)) = true := (by simp; omega);have d1n : decide (144 <= i) = true := (by simp; omega);have d2 : decide ((i : Int) < 256) = true := (by simp; omega);have d2n : decide (i < 256) = true := (by simp; omega);have d3 : decide ((256 : Int) <= (i : Int)) = false := (by simp; omega);have d3n : decide (256 <= i) = false := (by simp; omega);have d4 : decide ((i : Int) < 280) = true := (by simp; omega);have d4n : decide (i < 280) = true := (by simp; omega);have hb8 : Below wr.heap.size wr (wr.alloc (.cells #[.int .i64 9] 3)) := (Below.refl _ _).alloc (Nat.le_refl _) _;have HG8 : Hid ((wr.alloc (.cells #[.int .i64 9] 3)).heap[wr.heap.size]? = some (.cells #[.int .i64 ((9 : Nat) : Int)] 3 (0, 0))) := hd_ (heap_alloc_new wr _);have HO8 := hd_ (HO.out.below hb8);have HB8 := hd_ (HB.out.trans (hb8.mono HB.out.size));clear hb8 HO HB y0;go_wp2_with (at_builtin; go_must (refine wpList_of_append rfl (.tmp 23) (.tmp 25) 59 59 rfl (run_append_nat _ _ w.heap.size (.slice ra i rc) (df.fixL.take i) 9 HO8.out HTL.out HB8.out.size wr.heap.size HG8.out) ?_; rintro v9 w9 ⟨ho9, hg9, _⟩; have HO9 := hd_ ho9; have HG9 := hd_ hg9; clear ho9 hg9))
    have hob := own_nat HO8.out;have HB9 := hd_ (HB8.out.grown HG9.out HB8.out.size (fun k e => (hob k e).1));go_roundg (288 - (i + 1))
    case measure => have := Hg.out; omega
    case rel => exact ⟨i + 1, by omega, rfl, by rw [HTK.out]; exact HO9.out, by go_num, HB9.out⟩
   ·have y0 : df.fixL.getD i 0 = 7 := by rw [df.fixL_get i hlt]; first | rw [if_pos (by omega)] | rw [if_neg (by omega), if_pos (by omega)] | rw [if_neg (by omega), if_neg (by omega)]
    rw [y0] at HTK;have d1 : decide ((144 : Int) <= (i : Int)) = true := (by simp; omega);have d1n : decide (144 <= i) = true := (by simp; omega);have d2 : decide ((i : Int) < 256) = false := (by simp; omega);have d2n : decide (i < 256) = false := (by simp; omega);have d3 : decide ((256 : Int) <= (i : Int)) = true := (by simp; omega);have d3n : decide (256 <= i) = true := (by simp; omega);have d4 : decide ((i : Int) < 280) = true := (by simp; omega);have d4n : decide (i < 280) = true := (by simp; omega);have hb8 : Below wr.heap.size wr (wr.alloc (.cells #[.int .i64 7] 3)) := (Below.refl _ _).alloc (Nat.le_refl _) _;have HG8 : Hid ((wr.alloc (.cells #[.int .i64 7] 3)).heap[wr.heap.size]? = some (.cells #[.int .i64 ((7 : Nat) : Int)] 3 (0, 0))) := hd_ (heap_alloc_new wr _);have HO8 := hd_ (HO.out.below hb8);have HB8 := hd_ (HB.out.trans (hb8.mono HB.out.size));clear hb8 HO HB y0;go_wp2_with (at_builtin; go_must (refine wpList_of_append rfl (.tmp 23) (.tmp 25) 59 59 rfl (run_append_nat _ _ w.heap.size (.slice ra i rc) (df.fixL.take i) 7 HO8.out HTL.out HB8.out.size wr.heap.size HG8.out) ?_; rintro v9 w9 ⟨ho9, hg9, _⟩; have HO9 := hd_ ho9; have HG9 := hd_ hg9; clear ho9 hg9))
    have hob := own_nat HO8.out;have HB9 := hd_ (HB8.out.grown HG9.out HB8.out.size (fun k e => (hob k e).1));go_roundg (288 - (i + 1))
    case measure => have := Hg.out; omega
    case rel => exact ⟨i + 1, by omega, rfl, by rw [HTK.out]; exact HO9.out, by go_num, HB9.out⟩
   ·have y0 : df.fixL.getD i 0 = 8 := by rw [df.fixL_get i hlt]; first | rw [if_pos (by omega)] | rw [if_neg (by omega), if_pos (by omega)] | rw [if_neg (by omega), if_neg (by omega)]
    rw [y0] at HTK;have d1 : decide ((144 : Int) <= (i : Int)) = true := (by simp; omega);have d1n : decide (144 <= i) = true := (by simp; omega);have d2 : decide ((i : Int) < 256) = false := (by simp; omega);have d2n : decide (i < 256) = false := (by simp; omega);have d3 : decide ((256 : Int) <= (i : Int)) = true := (by simp; omega);have d3n : decide (256 <= i) = true := (by simp; omega);have d4 : decide ((i : Int) < 280) = false := (by simp; omega);have d4n : decide (i < 280) = false := (by simp; omega);have hb8 : Below wr.heap.size wr (wr.alloc (.cells #[.int .i64 8] 3)) := (Below.refl _ _).alloc (Nat.le_refl _) _;have HG8 : Hid ((wr.alloc (.cells #[.int .i64 8] 3)).heap[wr.heap.size]? = some (.cells #[.int .i64 ((8 : Nat) : Int)] 3 (0, 0))) := hd_ (heap_alloc_new wr _);have HO8 := hd_ (HO.out.below hb8);have HB8 := hd_ (HB.out.trans (hb8.mono HB.out.size));clear hb8 HO HB y0;go_wp2_with (at_builtin; go_must (refine wpList_of_append rfl (.tmp 23) (.tmp 25) 59 59 rfl (run_append_nat _ _ w.heap.size (.slice ra i rc) (df.fixL.take i) 8 HO8.out HTL.out HB8.out.size wr.heap.size HG8.out) ?_; rintro v9 w9 ⟨ho9, hg9, _⟩; have HO9 := hd_ ho9; have HG9 := hd_ hg9; clear ho9 hg9))
    have hob := own_nat HO8.out;have HB9 := hd_ (HB8.out.grown HG9.out HB8.out.size (fun k e => (hob k e).1));go_roundg (288 - (i + 1))
    case measure => have := Hg.out; omega
    case rel => exact ⟨i + 1, by omega, rfl, by rw [HTK.out]; exact HO9.out, by go_num, HB9.out⟩
  ·obtain rfl : i = 288 := by omega
   have htk : df.fixL.take 288 = df.fixL := List.take_of_length_le (by rw [hfl]; exact Nat.le_refl _);rw [htk] at HO;obtain ⟨v1, hv1⟩ : ∃ z, Value.slice ra 288 rc = z := ⟨_, rfl⟩;have HV1 := hd_ hv1;rw [hv1] at HO;clear hfl htl htk Hg hi hlt hv1;go_wp2_with fail
   go_loopg [3, 6] 30 (fun gk s3 s6 wq => ∃ i : Nat, i <= 30 /\ gk = 30 - i /\ OwnN w.heap.size wq s3 (df.fixD.take i) /\ s6 = .int .i64 (i : Nat) /\ OwnN w.heap.size wq v1 df.fixL /\ Below w.heap.size w wq /\ (∀ k, s3.ownBlock = some k -> v1.ownBlock ≠ some k))
   case atStart => exact ⟨0, Nat.zero_le _, rfl, World.ownsRow_nil _ _ _ _, by go_num, HO.out, HB.out, fun k e => by cases e⟩
   case round =>
    obtain ⟨i, hi, hgk, ho, rfl, hv, hb, hap⟩ := hrel;have Hg := hd_ hgk;have HOD := hd_ ho;have HV := hd_ hv;have HBD := hd_ hb;have HAP := hd_ hap;have hfl : df.fixD.length = 30 := (by decide);have htl : (df.fixD.take i).length = i := (by rw [List.length_take, hfl]; omega);obtain ⟨rda, rdc, erv⟩ : ∃ a c, u3 = .slice a i c := by
     obtain ⟨a', c', e', _⟩ := own_slice' ho;exact ⟨a', c', by rw [<- htl]; exact e'⟩
    subst erv;clear hgk ho hv hb hap HO HB;by_cases hlt : i < 30
    ·have HTK := hd_ (take_snocN (ls := df.fixD) (i := i) (by rw [hfl]; exact hlt))
     have HTL : Hid ((df.fixD.take i).length <= 1099511627776) := hd_ (by rw [htl]; omega);have y0 := df.fixD_get i hlt;rw [y0] at HTK;have hb8 : Below wr.heap.size wr (wr.alloc (.cells #[.int .i64 5] 3)) := (Below.refl _ _).alloc (Nat.le_refl _) _;have HG8 : Hid ((wr.alloc (.cells #[.int .i64 5] 3)).heap[wr.heap.size]? = some (.cells #[.int .i64 ((5 : Nat) : Int)] 3 (0, 0))) := hd_ (heap_alloc_new wr _);have HO8 := hd_ (HOD.out.below hb8);have HV8 := hd_ (HV.out.below hb8);have HB8 := hd_ (HBD.out.trans (hb8.mono HBD.out.size));clear hb8 HOD HBD HV y0 hfl htl;go_wp2_with (at_builtin; go_must (refine wpList_of_append rfl (.tmp 31) (.tmp 32) 59 59 rfl (run_append_nat _ _ w.heap.size (.slice rda i rdc) (df.fixD.take i) 5 HO8.out HTL.out HB8.out.size wr.heap.size HG8.out) ?_; rintro v9 w9 ⟨ho9, hg9, hv9⟩; have HO9 := hd_ ho9; have HG9 := hd_ hg9; have HV9 := hd_ hv9; clear ho9 hg9 hv9))
     have hob := own_nat HO8.out;have HB9 := hd_ (HB8.out.grown HG9.out HB8.out.size (fun k e => (hob k e).1));have HW9 : Hid (OwnN w.heap.size w9 v1 df.fixL) := hd_ (World.ownsRow.kept HV8.out HG9.out (by
      cases hv : v1.ownBlock with
      | none => exact .inl rfl
      | some k => exact .inr (fun e => HAP.out k e.symm hv)))
     have HX9 : Hid (∀ k, v9.ownBlock = some k -> v1.ownBlock ≠ some k) := hd_ (by
      intro k hk hv;rcases HV9.out with e | e
      ·exact HAP.out k (by rw [<- e]; exact hk) hv
      ·rw [hk] at e
       have h1 := (own_nat HV8.out k hv).2.1;have h2 := Option.some.inj e;omega)
     go_roundg (30 - (i + 1))
     case measure => have := Hg.out; omega
     case rel => exact ⟨i + 1, by omega, rfl, by rw [HTK.out]; exact HO9.out, by go_num, HW9.out, HB9.out, HX9.out⟩
    ·obtain rfl : i = 30 := by omega
     have htk : df.fixD.take 30 = df.fixD := List.take_of_length_le (by rw [hfl]; exact Nat.le_refl _);rw [htk] at HOD;go_wp2_with fail
     go_ret2
     exact ⟨_, _, rfl, by rw [HV1.out]; exact HV.out, HOD.out, HBD.out⟩
end Go.Proofs.YthpckmcgbmfmcaaGreatDoor
namespace Go.Proofs.YthpckmcgbmfmcaaGreatDoor
namespace df
theorem bits8_length (l : List Int) : (l.flatMap fun x => bt.bitsOf false x.toNat 8).length = 8 * l.length := bytes8_length l
theorem byte_at {L A B : List Bool} {v j : Nat} (h : L = A ++ (bt.bitsOf false v 8 ++ B)) (hA : A.length = 8 * j) (hv : v < 256) : bt.byteOf false L j = v := by
 have h1 := bt.val_bits false A B v 8 hv;rw [<- List.append_assoc] at h;rw [<- h, bt.valTo_low, hA] at h1;exact h1
theorem bytes_at {L A B : List Bool} {ch : List Int} {k : Nat} (h : L = A ++ ((ch.flatMap fun x => bt.bitsOf false x.toNat 8) ++ B)) (hA : A.length = 8 * k) (hc : sm.Bytes ch) : ((bt.bytes false L).drop k).take ch.length = ch := by
 have hLl : L.length = 8 * k + 8 * ch.length + B.length := by rw [h, List.length_append, List.length_append, bits8_length, hA]; omega
 apply List.ext_getElem
 ·rw [List.length_take, List.length_drop, bt.bytes_length, hLl]
  omega
 ·intro j h1 h2
  rw [List.getElem_take, List.getElem_drop];have e : (bt.bytes false L)[k + j]'(by rw [bt.bytes_length, hLl]; omega) = (bt.bytes false L).getD (k + j) 0 := by
   rw [List.getD_eq_getElem?_getD, List.getElem?_eq_getElem];rfl
  rw [e, bt.bytes_getD false L (by rw [hLl]; omega)];have hcj := hc ch[j] (List.getElem_mem h2);have hsp : ch = ch.take j ++ (ch[j] :: ch.drop (j + 1)) := by
   rw [List.getElem_cons_drop, List.take_append_drop]
  have h3 : L = (A ++ (ch.take j).flatMap fun x => bt.bitsOf false x.toNat 8) ++ (bt.bitsOf false ch[j].toNat 8 ++ (((ch.drop (j + 1)).flatMap fun x => bt.bitsOf false x.toNat 8) ++ B)) := by
   rw [h]
   conv => lhs; rw [hsp, List.flatMap_append, List.flatMap_cons]
   simp only [List.append_assoc]
  rw [byte_at h3 (by rw [List.length_append, bits8_length, hA, List.length_take]; omega) (by omega)];omega
def withTail (S : List Bool) (t : List Int) : List Bool := bt.pad S ++ t.flatMap fun x => bt.bitsOf false x.toNat 8
theorem withTail_length (S : List Bool) (t : List Int) : (withTail S t).length = 8 * ((S.length + 7) / 8) + 8 * t.length := by
 unfold withTail;rw [List.length_append, bt.pad_length, bits8_length]
theorem withTail_bytes (S : List Bool) {t : List Int} (ht : sm.Bytes t) : bt.bytes false (withTail S t) = bt.bytes false S ++ t := by
 have hl := withTail_length S t;apply List.ext_getElem
 ·rw [bt.bytes_length, List.length_append, bt.bytes_length, hl]
  omega
 ·intro j h1 h2
  rw [bt.bytes_length] at h1;have e : ∀ (L : List Bool) (h : j < (bt.bytes false L).length), (bt.bytes false L)[j] = (bt.byteOf false L j : Nat) := fun L h => by
   have h3 := bt.bytes_getD false L (j := j) (by rwa [bt.bytes_length] at h);rw [List.getD_eq_getElem?_getD, List.getElem?_eq_getElem h] at h3;exact h3
  rw [e];rcases Nat.lt_or_ge j ((S.length + 7) / 8) with hj | hj
  ·rw [List.getElem_append_left (by rw [bt.bytes_length]; exact hj), e]
   congr 1
   unfold bt.byteOf;refine bt.num_congr fun p hp => ?_
   simp only [Bool.false_eq_true, if_false];unfold withTail;rw [List.getD_eq_getElem?_getD, List.getElem?_append_left (by rw [bt.pad_length]; omega), <- List.getD_eq_getElem?_getD, bt.pad_getD]
  ·rw [List.getElem_append_right (by rw [bt.bytes_length]; exact hj)]
   have hb := bytes_at (L := withTail S t) (A := bt.pad S) (B := []) (ch := t) (k := (S.length + 7) / 8) (by rw [List.append_nil]; rfl) (bt.pad_length S) ht;have h4 : ((bt.bytes false (withTail S t)).drop ((S.length + 7) / 8)) = t := by
    have h7 : ((bt.bytes false (withTail S t)).drop ((S.length + 7) / 8)).length = t.length := by
     rw [List.length_drop, bt.bytes_length, hl];omega
    rw [List.take_of_length_le (by rw [h7]; exact Nat.le_refl _)] at hb;exact hb
   have h5 : t[j - (bt.bytes false S).length]? = some ((bt.byteOf false (withTail S t) j : Nat) : Int) := by
    conv => lhs; rw [<- h4]
    rw [List.getElem?_drop, bt.bytes_length, Nat.add_sub_cancel' hj, List.getElem?_eq_getElem (by rw [bt.bytes_length]; exact h1), e]
   have h6 : j - (bt.bytes false S).length < t.length := by
    rw [List.length_append] at h2;rw [bt.bytes_length] at h2 ⊢;omega
   rw [List.getElem?_eq_getElem h6] at h5;exact (Option.some.inj h5).symm
theorem withTail_pre (S : List Bool) (t : List Int) : ∃ E, withTail S t = S ++ E := ⟨_, by unfold withTail bt.pad; rw [List.append_assoc]⟩
theorem bits3_0 : bt.bitsOf false 0 3 = bt.bitsOf false 0 1 ++ bt.bitsOf false 0 2 := rfl
theorem bits3_1 : bt.bitsOf false 1 3 = bt.bitsOf false 1 1 ++ bt.bitsOf false 0 2 := rfl
theorem bits3_3 : bt.bitsOf false 3 3 = bt.bitsOf false 1 1 ++ bt.bitsOf false 1 2 := rfl
theorem bits3_5 : bt.bitsOf false 5 3 = bt.bitsOf false 1 1 ++ bt.bitsOf false 2 2 := rfl
theorem head_at {L A R : List Bool} {v a b : Nat} (h : L = A ++ (bt.bitsOf false v 3 ++ R)) (hv : bt.bitsOf false v 3 = bt.bitsOf false a 1 ++ bt.bitsOf false b 2) (ha : a < 2) (hb : b < 4) :
  A.length + 3 <= L.length /\ bt.valTo false L A.length 1 = a /\ bt.valTo false L (A.length + 1) 2 = b := by
 rw [hv, List.append_assoc] at h;obtain ⟨_, q1⟩ := take_at h ha;have h2 : L = (A ++ bt.bitsOf false a 1) ++ (bt.bitsOf false b 2 ++ R) := by rw [h]; simp only [List.append_assoc]
 obtain ⟨p2, q2⟩ := take_at h2 hb;rw [List.length_append, bt.bitsOf_length] at p2 q2;exact ⟨by omega, q1, q2⟩
theorem blk_at {L A R : List Bool} {last : Nat} {ch : List Int} {k : Nat} (h : L = A ++ (blk last ch ++ R)) (hA : A.length = 8 * k) (hc : sm.Bytes ch) (hl : ch.length <= 65535) :
  8 * k + 40 + 8 * ch.length <= L.length /\ bt.valTo false L (8 * k + 8) 16 = ch.length /\ bt.valTo false L (8 * k + 24) 16 = ch.length ^^^ 65535 /\ ((bt.bytes false L).drop (k + 5)).take ch.length = ch := by
 unfold blk at h;simp only [List.append_assoc] at h;have h1 : L = (A ++ bt.bitsOf false last 3 ++ List.replicate 5 false) ++ (bt.bitsOf false ch.length 16 ++ (bt.bitsOf false (ch.length ^^^ 65535) 16 ++ ((ch.flatMap fun x => bt.bitsOf false x.toNat 8) ++ R))) := by rw [h]; simp only [List.append_assoc]
 have h2 : L = (A ++ bt.bitsOf false last 3 ++ List.replicate 5 false ++ bt.bitsOf false ch.length 16) ++ (bt.bitsOf false (ch.length ^^^ 65535) 16 ++ ((ch.flatMap fun x => bt.bitsOf false x.toNat 8) ++ R)) := by rw [h]; simp only [List.append_assoc]
 have h3 : L = (A ++ bt.bitsOf false last 3 ++ List.replicate 5 false ++ bt.bitsOf false ch.length 16 ++ bt.bitsOf false (ch.length ^^^ 65535) 16) ++ ((ch.flatMap fun x => bt.bitsOf false x.toNat 8) ++ R) := by rw [h]; simp only [List.append_assoc]
 have hx : ch.length ^^^ 65535 < 2 ^ 16 := Nat.xor_lt_two_pow (by omega) (by decide);obtain ⟨_, q1⟩ := take_at h1 (by omega);obtain ⟨_, q2⟩ := take_at h2 hx;have l1 : (A ++ bt.bitsOf false last 3 ++ List.replicate 5 false).length = 8 * k + 8 := by simp only [List.length_append, bt.bitsOf_length, List.length_replicate, hA]
 have l2 : (A ++ bt.bitsOf false last 3 ++ List.replicate 5 false ++ bt.bitsOf false ch.length 16).length = 8 * k + 24 := by rw [List.length_append, l1, bt.bitsOf_length]
 have l3 : (A ++ bt.bitsOf false last 3 ++ List.replicate 5 false ++ bt.bitsOf false ch.length 16 ++ bt.bitsOf false (ch.length ^^^ 65535) 16).length = 8 * (k + 5) := by rw [List.length_append, l2, bt.bitsOf_length]; omega
 rw [l1] at q1;rw [l2] at q2;have hb := bytes_at h3 l3 hc;refine ⟨?_, q1, q2, hb⟩;rw [h3, List.length_append, l3, List.length_append, bits8_length];omega
end df
end Go.Proofs.YthpckmcgbmfmcaaGreatDoor
namespace Go.Proofs.YthpckmcgbmfmcaaGreatDoor
open Go.RowKit Go.Sort Go.Shelf
attribute [local go_sem] Oper.semAt_some
theorem raw1_idle (p q s : Addr) (w : World) :
  CallsD Tryz.prog 60 #[.pointer (some p), .pointer (some q), .pointer (some s)] .returning w fun e u' w' => e = .returned (.tuple #[]) /\ u' = .returning /\ w' = w := by
 refine callsD_of_wpS Tryz.func60 rfl fun c₀ cs hu => ?_
 conv => arg 2; whnf
 apply wpS_seq
 apply wpS_region
 simp [wpOpsS, go_sem, recoverD, hu, Tryz.ntmps60, Exit.thenS];refine wpS_of_wp ?_;go_wp2_with fail
 cases c₀
 simp_all [bodyPostS, results, Tryz.results60]
theorem results_cell3 {P : Program} {fn : Func} {p q s : Tmp} {tp tq ts e : TypeId} {k k2 : IntKind} (h : fn.results = #[.cell p tp, .cell q tq, .cell s ts]) (tmps : Array Value) (w : World) (g g1 g2 : Nat) (v v1 v2 : Value)
  (hp : tmps.getD p undef = .pointer (some ⟨g, 0, none⟩)) (hq : tmps.getD q undef = .pointer (some ⟨g1, 0, none⟩)) (hs : tmps.getD s undef = .pointer (some ⟨g2, 0, none⟩)) (c : w.cell? ⟨g, 0, none⟩ = some v) (c1 : w.cell? ⟨g1, 0, none⟩ = some v1) (c2 : w.cell? ⟨g2, 0, none⟩ = some v2)
  (hu : P.underlying tp = some (.slice e)) (hv : P.underlying tq = some (.int k)) (hz : P.underlying ts = some (.int k2)) :
  (results fn tmps).run P w = .ok (.tuple #[v, v1, v2]) w := by
 have hp' : tmps[p]?.getD undef = .pointer (some ⟨g, 0, none⟩) := by simpa using hp
 have hq' : tmps[q]?.getD undef = .pointer (some ⟨g1, 0, none⟩) := by simpa using hq
 have hs' : tmps[s]?.getD undef = .pointer (some ⟨g2, 0, none⟩) := by simpa using hs
 have a0 : (isAgg tp).run P w = .ok false w := by
  unfold isAgg;rw [Sem.run_bind, run_underlying hu w];rfl
 have a1 : (isAgg tq).run P w = .ok false w := by
  unfold isAgg;rw [Sem.run_bind, run_underlying hv w];rfl
 have a2 : (isAgg ts).run P w = .ok false w := by
  unfold isAgg;rw [Sem.run_bind, run_underlying hz w];rfl
 simp [results, h, hp', hq', hs', asAddr];simp [go_sem, c, c1, c2, a0, a1, a2]
end Go.Proofs.YthpckmcgbmfmcaaGreatDoor
