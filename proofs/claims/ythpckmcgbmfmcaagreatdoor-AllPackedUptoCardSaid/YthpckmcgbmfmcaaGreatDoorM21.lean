/- Texts of this claim, joined. -/
import Derived.Test.YthpckmcgbmfmcaaGreatDoorM19
import Derived.Lib.AppendZerosOnto
set_option maxRecDepth 100000
set_option maxHeartbeats 12800000
namespace Go.Proofs.YthpckmcgbmfmcaaGreatDoor
open Go.RowKit Go.Sort
structure Src where
 a : Option Addr
 n : Nat
 c : Nat
 v : List Value
def Src.val (s : Src) : Value := .slice s.a s.n s.c
structure Src.Ok (k : Nat) (w : World) (s : Src) : Prop where
 len : s.v.length = s.n * k
 one : ∀ u ∈ s.v, u.oneCell' = true
 rd : (s.a = none /\ s.n = 0 /\ s.c = 0) \/ ∃ ad, s.a = some ad /\ ∀ j u, s.v[j]? = some u -> w.cell? (ad.add j) = some u
theorem Src.Ok.below {k : Nat} {w w' : World} {s : Src} (h : s.Ok k w) (hb : Below w.heap.size w w') : s.Ok k w' := by
 refine ⟨h.len, h.one, ?_⟩;rcases h.rd with h1 | ⟨ad, e, h2⟩
 ·exact .inl h1
 ·exact .inr ⟨ad, e, fun j u hu => keep_cell hb (h2 j u hu)⟩
theorem src_sl {k : IntKind} {w : World} {a : Option Addr} {n c : Nat} {l : List Int} (h : Sl k w a n c l) : (⟨a, n, c, l.map (Value.int k)⟩ : Src).Ok 1 w := by
 refine ⟨by simp [h.len], ints_oneCell _ _, ?_⟩;cases a with
 | none =>
  have h1 := h.bare rfl;have h2 := h.fits;exact .inl ⟨rfl, by show n = 0; omega, h1⟩
 | some ad => exact .inr ⟨ad, rfl, h.at_news⟩
def catN (ss : List Src) : Nat := (ss.map (·.n)).sum
def catV (ss : List Src) : List Value := ss.flatMap (·.v)
theorem catN_snoc (ss : List Src) (s : Src) : catN (ss ++ [s]) = catN ss + s.n := by simp [catN]
theorem catV_snoc (ss : List Src) (s : Src) : catV (ss ++ [s]) = catV ss ++ s.v := by simp [catV]
theorem catN_take {ss : List Src} {i : Nat} {s : Src} (h : ss[i]? = some s) : catN (ss.take (i + 1)) = catN (ss.take i) + s.n := by rw [List.take_add_one, h]; exact catN_snoc _ _
theorem catV_take {ss : List Src} {i : Nat} {s : Src} (h : ss[i]? = some s) : catV (ss.take (i + 1)) = catV (ss.take i) ++ s.v := by rw [List.take_add_one, h]; exact catV_snoc _ _
theorem catN_le (ss : List Src) (i : Nat) : catN (ss.take i) <= catN ss := by
 have : catN ss = catN (ss.take i) + catN (ss.drop i) := by
  unfold catN;rw [<- List.sum_append, <- List.map_append, List.take_append_drop]
 omega
theorem infoI64 : (Tryz.prog.info? 3).map (fun i => (i.zero, i.size, i.bytes)) = some (some (.int .i64 0), 1, 8) := by kernel_rfl
theorem infoCoin : (Tryz.prog.info? 222).map (fun i => (i.zero, i.size, i.bytes)) = some (some (.agg #[.int .i64 0, .slice none 0 0]), 2, 32) := by kernel_rfl
theorem bgrow_any (m : Nat) (hm : m <= 1099511627776) (w : World) :
  Calls Tryz.prog 58 #[.slice none 0 0, .int .i64 (m : Nat)] w fun e w' => ∃ v, e = .returned v /\ w'.ownsRow w.heap.size 5 1 v 0 [] /\ Below w.heap.size w w' := by
 obtain ⟨i, hi, hz, hs, hby⟩ := info_parts infoByte;by_cases h0 : 0 < m
 ·have hr := Lib.run_append_grow_zeros (P := Tryz.prog) w 22 3 22 5 i (Value.int .u8 0) .i64 .i64 Tryz.underlying22 Tryz.underlying3 hi hz none 0 0 [] (by simp [Builtin.firstCells]) m h0 (by rw [hs]; decide) (by omega) (by omega) (by rw [hby]; omega) (by rw [hby]; simp [nextslicecap_zero h0]; omega)
  have hge := grownCap_ge w (0 + m) 0 5;have hcm : grownCap w (0 + m) 0 5 <= maxLen := grownCap_le_maxLen w (0 + m) 0 5 (by unfold maxLen; omega);obtain ⟨cp, hcp⟩ : ∃ cp, grownCap w (0 + m) 0 5 = cp := ⟨_, rfl⟩;rw [hcp] at hr hge hcm;simp only [Nat.zero_add] at hr hge hcm;obtain ⟨W9, hW9⟩ : ∃ x, (w.drew.alloc (.cells ((#[] : Array Value) ++ Builtin.zeroCells (Value.int .u8 0).cells m ++ Builtin.zeroCells (Value.int .u8 0).cells (cp - m)) 5)) = x := ⟨_, rfl⟩;have hrow : W9.ownsRow w.heap.size 5 1 (.slice (some ⟨w.heap.size, 0, none⟩) 0 cp) 0 [] := by
   rw [<- hW9];refine ⟨by simp, .inr ⟨w.heap.size, cp, _, rfl, Nat.le_refl _, heap_alloc_new w.drew _, Nat.zero_le _, hcm, ?_, by simp⟩⟩;simp only [Array.size_append, List.size_toArray, size_zeroCells, Value.cells];simp;omega
  have hb : Below w.heap.size w W9 := by rw [<- hW9]; exact (Below.drew (Below.refl _ _)).alloc (Nat.le_refl _) _
  have hr' : ∃ v' w', (Builtin.append_ #[22, 3] 22 #[.slice none 0 0, .int .i64 (m : Nat)]).run Tryz.prog w = .ok v' w' /\ (v' = .slice (some ⟨w.heap.size, 0, none⟩) m cp /\ w' = W9) := ⟨_, _, hr, rfl, hW9⟩;have HROW := hd_ hrow;have HB := hd_ hb;have HR := hd_ hr';have h0' : decide ((0 : Int) < (m : Int)) = true := by simp; omega
  clear hr hr' hrow hb hi hz hs hby hcp hW9;go_enter Tryz.func58, Tryz.ntmps58
  go_wp2_with (at_builtin; go_must (refine wpList_of_append rfl (.tmp 20) (.tmp 21) 22 3 rfl HR.out ?_; rintro v9 w9 ⟨rfl, rfl⟩))
  go_ret
  exact ⟨_, rfl, HROW.out, HB.out⟩
 ·obtain rfl : m = 0 := by omega
  go_enter Tryz.func58, Tryz.ntmps58
  go_wp2_with fail
  go_ret
  exact ⟨_, rfl, World.ownsRow_nil _ _ _ _, Below.refl _ _⟩
theorem bcat_any (sb so sc : Nat) (ss : List Src) (w : World) (hc : ∀ i s, ss[i]? = some s -> w.cell? ⟨sb, so + i, none⟩ = some s.val) (hss : ss.length <= 4096) (hok : ∀ s ∈ ss, s.Ok 1 w) (hsum : catN ss <= 68719476736) (hcap : ss.length <= sc) :
  Calls Tryz.prog 21 #[.slice (some ⟨sb, so, none⟩) ss.length sc] w fun e w' => ∃ v, e = .returned v /\ w'.ownsRow w.heap.size 5 1 v (catN ss) (catV ss) /\ Below w.heap.size w w' := by
 obtain ⟨i0, hi, hz, hsz, hby⟩ := info_parts infoByte;have HI := hd_ (And.intro hi (And.intro hz (And.intro hsz hby)));have HC := hd_ hc;have HOK := hd_ hok;obtain ⟨n, hn⟩ : ∃ n, ss.length = n := ⟨_, rfl⟩;rw [hn] at hss hcap ⊢;have HN := hd_ hn;clear hi hz hsz hby hc hok hn;go_enter Tryz.func21, Tryz.ntmps21
 go_wp2_with fail
 go_loopg [3, 5, 11] n (fun gk s3 s5 s11 wr => w = wr /\ ∃ i, i <= n /\ gk = n - i /\ s3 = .int .i64 (catN (ss.take i) : Nat) /\ s11 = .int .i64 (i : Nat))
 case atStart => exact ⟨rfl, 0, Nat.zero_le _, rfl, rfl, by go_num⟩
 case round =>
  obtain ⟨rfl, i, hi, hg, rfl, rfl⟩ := hrel;have Hg := hd_ hg;clear hg;by_cases hlt : i < n
  ·obtain ⟨s, hs⟩ : ∃ s, ss[i]? = some s := ⟨_, List.getElem?_eq_getElem (by rw [HN.out]; exact hlt)⟩
   have k0 := HC.out i s hs;have HT := hd_ (catN_take hs);have hle := catN_le ss (i + 1);rw [catN_take hs] at hle;obtain ⟨q, hq⟩ : ∃ q, catN (ss.take i) = q := ⟨_, rfl⟩;rw [hq] at hle HT ⊢;obtain ⟨a, m, c, vs⟩ := s;change q + m <= _ at hle
   change Hid (_ = q + m) at HT
   unfold Src.val at k0;have hi1 : (i : Int) < (n : Int) := (by omega);have sq : IntKind.i64.wrap ((q : Int) + (m : Int)) = ((q + m : Nat) : Int) := i64o (by omega) (by omega);have hq0 : decide (((q + m : Nat) : Int) < 0) = false := (by simp; omega);have hic : ¬ sc = i := (by omega);clear hs hq;go_wp2_with fail
   go_roundg (n - (i + 1))
   case measure => have := Hg.out; omega
   case rel => exact ⟨rfl, i + 1, by omega, rfl, by rw [HT.out]; exact congrArg (Value.int .i64) (by omega), by go_num⟩
  ·obtain rfl : i = n := by omega
   have ht : ss.take i = ss := List.take_of_length_le (Nat.le_of_eq HN.out);rw [ht];have CG := hd_ (bgrow_any (catN ss) (by omega) w);obtain ⟨q, hq⟩ : ∃ q, catN ss = q := ⟨_, rfl⟩;have HQ := hd_ hq;rw [hq] at CG hsum ⊢;clear ht hq Hg hlt hi;go_wp2_with fail
   refine CG.out.mono ?_;rintro e w1 ⟨v, rfl, hv, hb⟩;have HV := hd_ hv;have HB := hd_ hb;clear hv hb CG;go_wp2_with fail
   go_loopg [6, 8, 27] i (fun gk s6 s8 s27 wx => ∃ j, j <= i /\ gk = i - j /\ s27 = .int .i64 (j : Nat) /\ wx.ownsRow w.heap.size 5 1 s6 (catN (ss.take j)) (catV (ss.take j)) /\ Below w.heap.size w wx)
   case atStart => exact ⟨0, Nat.zero_le _, rfl, by go_num, HV.out, HB.out⟩
   case round =>
    obtain ⟨j, hj, hg, rfl, hv, hb⟩ := hrel;have Hg := hd_ hg;clear HV HB;have HV := hd_ hv;have HB := hd_ hb;clear hg hv hb;by_cases hlt : j < i
    ·obtain ⟨s, hs⟩ : ∃ s, ss[j]? = some s := ⟨_, List.getElem?_eq_getElem (by rw [HN.out]; exact hlt)⟩
     have k0 := keep_cell HB.out (HC.out j s hs);have hso := (HOK.out s (List.mem_of_getElem? hs)).below HB.out;have HT := hd_ (And.intro (catN_take hs) (catV_take hs));have hle := catN_le ss (j + 1);rw [catN_take hs, HQ.out] at hle;obtain ⟨a, m, c, vs⟩ := s;change _ + m <= _ at hle
     obtain ⟨h1, h2, h3⟩ := hso;change vs.length = m * 1 at h1
     change ∀ u ∈ vs, u.oneCell' = true at h2
     change (a = none /\ m = 0 /\ c = 0) \/ ∃ ad, a = some ad /\ _ at h3
     unfold Src.val at k0;have HCS : Hid (∃ v' w', (Builtin.append_ #[22, 22] 22 #[u6, .slice a m c]).run Tryz.prog wr = .ok v' w' /\ w'.ownsRow w.heap.size 5 1 v' (catN (ss.take j) + m) (catV (ss.take j) ++ vs) /\ wr.grownBy w' u6.ownBlock) := hd_ (by
      rcases h3 with ⟨rfl, rfl, rfl⟩ | ⟨ad, rfl, h3⟩
      ·have hv0 : vs = [] := List.eq_nil_of_length_eq_zero (by simpa using h1)
       subst hv0;exact ⟨_, _, run_append_owned_none (P := Tryz.prog) _ w.heap.size 22 _ 5 i0 1 Tryz.underlying22 HI.out.1 _ _ _ HV.out, by rw [List.append_nil, Nat.add_zero]; exact HV.out, World.grownBy.refl _ _⟩
      ·obtain ⟨v', w', e1, e2, e3, _⟩ := run_append_own (P := Tryz.prog) _ w.heap.size 22 22 5 i0 (Value.int .u8 0) 1 1 Tryz.underlying22 HI.out.1 HI.out.2.1 HI.out.2.2.1 HI.out.2.2.2 rfl (by decide) _ _ _ HV.out ad m c vs h1 h3 h2 (by unfold maxLen; omega) (by omega) HB.out.size
       exact ⟨v', w', e1, e2, e3⟩)
     have hi1 : (j : Int) < (i : Int) := (by omega);have hic : ¬ sc = j := (by omega);clear hs h1 h2 h3 hle;go_wp2_with (at_builtin; go_must (refine wpList_of_append rfl (.tmp 31) (.tmp 32) 22 22 rfl HCS.out ?_; rintro v9 w9 ⟨ho9, hg9⟩; have HO9 := hd_ ho9; have HG9 := hd_ hg9; clear ho9 hg9))
     go_roundg (i - (j + 1))
     case measure => have := Hg.out; omega
     case rel =>
      refine ⟨j + 1, by omega, rfl, by go_num, ?_, HB.out.grown HG9.out HB.out.size (fun r e => (World.ownsRow.lt HV.out r e).1)⟩;rw [HT.out.1, HT.out.2];exact HO9.out
    ·obtain rfl : j = i := by omega
     have ht : ss.take j = ss := List.take_of_length_le (Nat.le_of_eq HN.out);have hv := HV.out;rw [ht, HQ.out] at hv;have HV2 := hd_ hv;clear ht hv;go_wp2_with fail
     go_ret
     exact ⟨_, rfl, by rw [HQ.out]; exact HV2.out, HB.out⟩
theorem igrow_any (m : Nat) (hm : m <= 1099511627776) (w : World) :
  Calls Tryz.prog 133 #[.slice none 0 0, .int .i64 (m : Nat)] w fun e w' => ∃ v, e = .returned v /\ w'.ownsRow w.heap.size 3 1 v 0 [] /\ Below w.heap.size w w' := by
 obtain ⟨i, hi, hz, hs, hby⟩ := info_parts infoI64;by_cases h0 : 0 < m
 ·have hr := Lib.run_append_grow_zeros (P := Tryz.prog) w 59 3 59 3 i (Value.int .i64 0) .i64 .i64 Tryz.underlying59 Tryz.underlying3 hi hz none 0 0 [] (by simp [Builtin.firstCells]) m h0 (by rw [hs]; decide) (by omega) (by omega) (by rw [hby]; omega) (by rw [hby]; simp [nextslicecap_zero h0]; omega)
  have hge := grownCap_ge w (0 + m) 0 3;have hcm : grownCap w (0 + m) 0 3 <= maxLen := grownCap_le_maxLen w (0 + m) 0 3 (by unfold maxLen; omega);obtain ⟨cp, hcp⟩ : ∃ cp, grownCap w (0 + m) 0 3 = cp := ⟨_, rfl⟩;rw [hcp] at hr hge hcm;simp only [Nat.zero_add] at hr hge hcm;obtain ⟨W9, hW9⟩ : ∃ x, (w.drew.alloc (.cells ((#[] : Array Value) ++ Builtin.zeroCells (Value.int .i64 0).cells m ++ Builtin.zeroCells (Value.int .i64 0).cells (cp - m)) 3)) = x := ⟨_, rfl⟩;have hrow : W9.ownsRow w.heap.size 3 1 (.slice (some ⟨w.heap.size, 0, none⟩) 0 cp) 0 [] := by
   rw [<- hW9];refine ⟨by simp, .inr ⟨w.heap.size, cp, _, rfl, Nat.le_refl _, heap_alloc_new w.drew _, Nat.zero_le _, hcm, ?_, by simp⟩⟩;simp only [Array.size_append, List.size_toArray, size_zeroCells, Value.cells];simp;omega
  have hb : Below w.heap.size w W9 := by rw [<- hW9]; exact (Below.drew (Below.refl _ _)).alloc (Nat.le_refl _) _
  have hr' : ∃ v' w', (Builtin.append_ #[59, 3] 59 #[.slice none 0 0, .int .i64 (m : Nat)]).run Tryz.prog w = .ok v' w' /\ (v' = .slice (some ⟨w.heap.size, 0, none⟩) m cp /\ w' = W9) := ⟨_, _, hr, rfl, hW9⟩;have HROW := hd_ hrow;have HB := hd_ hb;have HR := hd_ hr';have h0' : decide ((0 : Int) < (m : Int)) = true := by simp; omega
  clear hr hr' hrow hb hi hz hs hby hcp hW9;go_enter Tryz.func133, Tryz.ntmps133
  go_wp2_with (at_builtin; go_must (refine wpList_of_append rfl (.tmp 20) (.tmp 21) 59 3 rfl HR.out ?_; rintro v9 w9 ⟨rfl, rfl⟩))
  go_ret
  exact ⟨_, rfl, HROW.out, HB.out⟩
 ·obtain rfl : m = 0 := by omega
  go_enter Tryz.func133, Tryz.ntmps133
  go_wp2_with fail
  go_ret
  exact ⟨_, rfl, World.ownsRow_nil _ _ _ _, Below.refl _ _⟩
theorem icat_any (sb so sc : Nat) (ss : List Src) (w : World) (hc : ∀ i s, ss[i]? = some s -> w.cell? ⟨sb, so + i, none⟩ = some s.val) (hss : ss.length <= 4096) (hok : ∀ s ∈ ss, s.Ok 1 w) (hsum : catN ss <= 68719476736) (hcap : ss.length <= sc) :
  Calls Tryz.prog 100 #[.slice (some ⟨sb, so, none⟩) ss.length sc] w fun e w' => ∃ v, e = .returned v /\ w'.ownsRow w.heap.size 3 1 v (catN ss) (catV ss) /\ Below w.heap.size w w' := by
 obtain ⟨i0, hi, hz, hsz, hby⟩ := info_parts infoI64;have HI := hd_ (And.intro hi (And.intro hz (And.intro hsz hby)));have HC := hd_ hc;have HOK := hd_ hok;obtain ⟨n, hn⟩ : ∃ n, ss.length = n := ⟨_, rfl⟩;rw [hn] at hss hcap ⊢;have HN := hd_ hn;clear hi hz hsz hby hc hok hn;go_enter Tryz.func100, Tryz.ntmps100
 go_wp2_with fail
 go_loopg [3, 5, 11] n (fun gk s3 s5 s11 wr => w = wr /\ ∃ i, i <= n /\ gk = n - i /\ s3 = .int .i64 (catN (ss.take i) : Nat) /\ s11 = .int .i64 (i : Nat))
 case atStart => exact ⟨rfl, 0, Nat.zero_le _, rfl, rfl, by go_num⟩
 case round =>
  obtain ⟨rfl, i, hi, hg, rfl, rfl⟩ := hrel;have Hg := hd_ hg;clear hg;by_cases hlt : i < n
  ·obtain ⟨s, hs⟩ : ∃ s, ss[i]? = some s := ⟨_, List.getElem?_eq_getElem (by rw [HN.out]; exact hlt)⟩
   have k0 := HC.out i s hs;have HT := hd_ (catN_take hs);have hle := catN_le ss (i + 1);rw [catN_take hs] at hle;obtain ⟨q, hq⟩ : ∃ q, catN (ss.take i) = q := ⟨_, rfl⟩;rw [hq] at hle HT ⊢;obtain ⟨a, m, c, vs⟩ := s;change q + m <= _ at hle
   change Hid (_ = q + m) at HT
   unfold Src.val at k0;have hi1 : (i : Int) < (n : Int) := (by omega);have sq : IntKind.i64.wrap ((q : Int) + (m : Int)) = ((q + m : Nat) : Int) := i64o (by omega) (by omega);have hq0 : decide (((q + m : Nat) : Int) < 0) = false := (by simp; omega);have hic : ¬ sc = i := (by omega);clear hs hq;go_wp2_with fail
   go_roundg (n - (i + 1))
   case measure => have := Hg.out; omega
   case rel => exact ⟨rfl, i + 1, by omega, rfl, by rw [HT.out]; exact congrArg (Value.int .i64) (by omega), by go_num⟩
  ·obtain rfl : i = n := by omega
   have ht : ss.take i = ss := List.take_of_length_le (Nat.le_of_eq HN.out);rw [ht];have CG := hd_ (igrow_any (catN ss) (by omega) w);obtain ⟨q, hq⟩ : ∃ q, catN ss = q := ⟨_, rfl⟩;have HQ := hd_ hq;rw [hq] at CG hsum ⊢;clear ht hq Hg hlt hi;go_wp2_with fail
   refine CG.out.mono ?_;rintro e w1 ⟨v, rfl, hv, hb⟩;have HV := hd_ hv;have HB := hd_ hb;clear hv hb CG;go_wp2_with fail
   go_loopg [6, 8, 27] i (fun gk s6 s8 s27 wx => ∃ j, j <= i /\ gk = i - j /\ s27 = .int .i64 (j : Nat) /\ wx.ownsRow w.heap.size 3 1 s6 (catN (ss.take j)) (catV (ss.take j)) /\ Below w.heap.size w wx)
   case atStart => exact ⟨0, Nat.zero_le _, rfl, by go_num, HV.out, HB.out⟩
   case round =>
    obtain ⟨j, hj, hg, rfl, hv, hb⟩ := hrel;have Hg := hd_ hg;clear HV HB;have HV := hd_ hv;have HB := hd_ hb;clear hg hv hb;by_cases hlt : j < i
    ·obtain ⟨s, hs⟩ : ∃ s, ss[j]? = some s := ⟨_, List.getElem?_eq_getElem (by rw [HN.out]; exact hlt)⟩
     have k0 := keep_cell HB.out (HC.out j s hs);have hso := (HOK.out s (List.mem_of_getElem? hs)).below HB.out;have HT := hd_ (And.intro (catN_take hs) (catV_take hs));have hle := catN_le ss (j + 1);rw [catN_take hs, HQ.out] at hle;obtain ⟨a, m, c, vs⟩ := s;change _ + m <= _ at hle
     obtain ⟨h1, h2, h3⟩ := hso;change vs.length = m * 1 at h1
     change ∀ u ∈ vs, u.oneCell' = true at h2
     change (a = none /\ m = 0 /\ c = 0) \/ ∃ ad, a = some ad /\ _ at h3
     unfold Src.val at k0;have HCS : Hid (∃ v' w', (Builtin.append_ #[59, 59] 59 #[u6, .slice a m c]).run Tryz.prog wr = .ok v' w' /\ w'.ownsRow w.heap.size 3 1 v' (catN (ss.take j) + m) (catV (ss.take j) ++ vs) /\ wr.grownBy w' u6.ownBlock) := hd_ (by
      rcases h3 with ⟨rfl, rfl, rfl⟩ | ⟨ad, rfl, h3⟩
      ·have hv0 : vs = [] := List.eq_nil_of_length_eq_zero (by simpa using h1)
       subst hv0;exact ⟨_, _, run_append_owned_none (P := Tryz.prog) _ w.heap.size 59 _ 3 i0 1 Tryz.underlying59 HI.out.1 _ _ _ HV.out, by rw [List.append_nil, Nat.add_zero]; exact HV.out, World.grownBy.refl _ _⟩
      ·obtain ⟨v', w', e1, e2, e3, _⟩ := run_append_own (P := Tryz.prog) _ w.heap.size 59 59 3 i0 (Value.int .i64 0) 1 8 Tryz.underlying59 HI.out.1 HI.out.2.1 HI.out.2.2.1 HI.out.2.2.2 rfl (by decide) _ _ _ HV.out ad m c vs h1 h3 h2 (by unfold maxLen; omega) (by omega) HB.out.size
       exact ⟨v', w', e1, e2, e3⟩)
     have hi1 : (j : Int) < (i : Int) := (by omega);have hic : ¬ sc = j := (by omega);clear hs h1 h2 h3 hle;go_wp2_with (at_builtin; go_must (refine wpList_of_append rfl (.tmp 31) (.tmp 32) 59 59 rfl HCS.out ?_; rintro v9 w9 ⟨ho9, hg9⟩; have HO9 := hd_ ho9; have HG9 := hd_ hg9; clear ho9 hg9))
     go_roundg (i - (j + 1))
     case measure => have := Hg.out; omega
     case rel =>
      refine ⟨j + 1, by omega, rfl, by go_num, ?_, HB.out.grown HG9.out HB.out.size (fun r e => (World.ownsRow.lt HV.out r e).1)⟩;rw [HT.out.1, HT.out.2];exact HO9.out
    ·obtain rfl : j = i := by omega
     have ht : ss.take j = ss := List.take_of_length_le (Nat.le_of_eq HN.out);have hv := HV.out;rw [ht, HQ.out] at hv;have HV2 := hd_ hv;clear ht hv;go_wp2_with fail
     go_ret
     exact ⟨_, rfl, by rw [HQ.out]; exact HV2.out, HB.out⟩
theorem kgrow_any (m : Nat) (hm : m <= 1099511627776) (w : World) :
  Calls Tryz.prog 159 #[.slice none 0 0, .int .i64 (m : Nat)] w fun e w' => ∃ v, e = .returned v /\ w'.ownsRow w.heap.size 222 2 v 0 [] /\ Below w.heap.size w w' := by
 obtain ⟨i, hi, hz, hs, hby⟩ := info_parts infoCoin;by_cases h0 : 0 < m
 ·have hr := Lib.run_append_grow_zeros (P := Tryz.prog) w 220 3 220 222 i (Value.agg #[.int .i64 0, .slice none 0 0]) .i64 .i64 Tryz.underlying220 Tryz.underlying3 hi hz none 0 0 [] (by simp [Builtin.firstCells]) m h0 (by rw [hs]; decide) (by omega) (by omega) (by rw [hby]; omega) (by rw [hby]; simp [nextslicecap_zero h0]; omega)
  have hge := grownCap_ge w (0 + m) 0 222;have hcm : grownCap w (0 + m) 0 222 <= maxLen := grownCap_le_maxLen w (0 + m) 0 222 (by unfold maxLen; omega);obtain ⟨cp, hcp⟩ : ∃ cp, grownCap w (0 + m) 0 222 = cp := ⟨_, rfl⟩;rw [hcp] at hr hge hcm;simp only [Nat.zero_add] at hr hge hcm;obtain ⟨W9, hW9⟩ : ∃ x, (w.drew.alloc (.cells ((#[] : Array Value) ++ Builtin.zeroCells (Value.agg #[.int .i64 0, .slice none 0 0]).cells m ++ Builtin.zeroCells (Value.agg #[.int .i64 0, .slice none 0 0]).cells (cp - m)) 222)) = x := ⟨_, rfl⟩;have hrow : W9.ownsRow w.heap.size 222 2 (.slice (some ⟨w.heap.size, 0, none⟩) 0 cp) 0 [] := by
   rw [<- hW9];refine ⟨by simp, .inr ⟨w.heap.size, cp, _, rfl, Nat.le_refl _, heap_alloc_new w.drew _, Nat.zero_le _, hcm, ?_, by simp⟩⟩;simp only [Array.size_append, List.size_toArray, size_zeroCells, Value.cells];simp;omega
  have hb : Below w.heap.size w W9 := by rw [<- hW9]; exact (Below.drew (Below.refl _ _)).alloc (Nat.le_refl _) _
  have hr' : ∃ v' w', (Builtin.append_ #[220, 3] 220 #[.slice none 0 0, .int .i64 (m : Nat)]).run Tryz.prog w = .ok v' w' /\ (v' = .slice (some ⟨w.heap.size, 0, none⟩) m cp /\ w' = W9) := ⟨_, _, hr, rfl, hW9⟩;have HROW := hd_ hrow;have HB := hd_ hb;have HR := hd_ hr';have h0' : decide ((0 : Int) < (m : Int)) = true := by simp; omega
  clear hr hr' hrow hb hi hz hs hby hcp hW9;go_enter Tryz.func159, Tryz.ntmps159
  go_wp2_with (at_builtin; go_must (refine wpList_of_append rfl (.tmp 20) (.tmp 21) 220 3 rfl HR.out ?_; rintro v9 w9 ⟨rfl, rfl⟩))
  go_ret
  exact ⟨_, rfl, HROW.out, HB.out⟩
 ·obtain rfl : m = 0 := by omega
  go_enter Tryz.func159, Tryz.ntmps159
  go_wp2_with fail
  go_ret
  exact ⟨_, rfl, World.ownsRow_nil _ _ _ _, Below.refl _ _⟩
theorem kcat_any (sb so sc : Nat) (ss : List Src) (w : World) (hc : ∀ i s, ss[i]? = some s -> w.cell? ⟨sb, so + i, none⟩ = some s.val) (hss : ss.length <= 4096) (hok : ∀ s ∈ ss, s.Ok 2 w) (hsum : catN ss <= 68719476736) (hcap : ss.length <= sc) :
  Calls Tryz.prog 142 #[.slice (some ⟨sb, so, none⟩) ss.length sc] w fun e w' => ∃ v, e = .returned v /\ w'.ownsRow w.heap.size 222 2 v (catN ss) (catV ss) /\ Below w.heap.size w w' := by
 obtain ⟨i0, hi, hz, hsz, hby⟩ := info_parts infoCoin;have HI := hd_ (And.intro hi (And.intro hz (And.intro hsz hby)));have HC := hd_ hc;have HOK := hd_ hok;obtain ⟨n, hn⟩ : ∃ n, ss.length = n := ⟨_, rfl⟩;rw [hn] at hss hcap ⊢;have HN := hd_ hn;clear hi hz hsz hby hc hok hn;go_enter Tryz.func142, Tryz.ntmps142
 go_wp2_with fail
 go_loopg [3, 5, 11] n (fun gk s3 s5 s11 wr => w = wr /\ ∃ i, i <= n /\ gk = n - i /\ s3 = .int .i64 (catN (ss.take i) : Nat) /\ s11 = .int .i64 (i : Nat))
 case atStart => exact ⟨rfl, 0, Nat.zero_le _, rfl, rfl, by go_num⟩
 case round =>
  obtain ⟨rfl, i, hi, hg, rfl, rfl⟩ := hrel;have Hg := hd_ hg;clear hg;by_cases hlt : i < n
  ·obtain ⟨s, hs⟩ : ∃ s, ss[i]? = some s := ⟨_, List.getElem?_eq_getElem (by rw [HN.out]; exact hlt)⟩
   have k0 := HC.out i s hs;have HT := hd_ (catN_take hs);have hle := catN_le ss (i + 1);rw [catN_take hs] at hle;obtain ⟨q, hq⟩ : ∃ q, catN (ss.take i) = q := ⟨_, rfl⟩;rw [hq] at hle HT ⊢;obtain ⟨a, m, c, vs⟩ := s;change q + m <= _ at hle
   change Hid (_ = q + m) at HT
   unfold Src.val at k0;have hi1 : (i : Int) < (n : Int) := (by omega);have sq : IntKind.i64.wrap ((q : Int) + (m : Int)) = ((q + m : Nat) : Int) := i64o (by omega) (by omega);have hq0 : decide (((q + m : Nat) : Int) < 0) = false := (by simp; omega);have hic : ¬ sc = i := (by omega);clear hs hq;go_wp2_with fail
   go_roundg (n - (i + 1))
   case measure => have := Hg.out; omega
   case rel => exact ⟨rfl, i + 1, by omega, rfl, by rw [HT.out]; exact congrArg (Value.int .i64) (by omega), by go_num⟩
  ·obtain rfl : i = n := by omega
   have ht : ss.take i = ss := List.take_of_length_le (Nat.le_of_eq HN.out);rw [ht];have CG := hd_ (kgrow_any (catN ss) (by omega) w);obtain ⟨q, hq⟩ : ∃ q, catN ss = q := ⟨_, rfl⟩;have HQ := hd_ hq;rw [hq] at CG hsum ⊢;clear ht hq Hg hlt hi;go_wp2_with fail
   refine CG.out.mono ?_;rintro e w1 ⟨v, rfl, hv, hb⟩;have HV := hd_ hv;have HB := hd_ hb;clear hv hb CG;go_wp2_with fail
   go_loopg [6, 8, 27] i (fun gk s6 s8 s27 wx => ∃ j, j <= i /\ gk = i - j /\ s27 = .int .i64 (j : Nat) /\ wx.ownsRow w.heap.size 222 2 s6 (catN (ss.take j)) (catV (ss.take j)) /\ Below w.heap.size w wx)
   case atStart => exact ⟨0, Nat.zero_le _, rfl, by go_num, HV.out, HB.out⟩
   case round =>
    obtain ⟨j, hj, hg, rfl, hv, hb⟩ := hrel;have Hg := hd_ hg;clear HV HB;have HV := hd_ hv;have HB := hd_ hb;clear hg hv hb;by_cases hlt : j < i
    ·obtain ⟨s, hs⟩ : ∃ s, ss[j]? = some s := ⟨_, List.getElem?_eq_getElem (by rw [HN.out]; exact hlt)⟩
     have k0 := keep_cell HB.out (HC.out j s hs);have hso := (HOK.out s (List.mem_of_getElem? hs)).below HB.out;have HT := hd_ (And.intro (catN_take hs) (catV_take hs));have hle := catN_le ss (j + 1);rw [catN_take hs, HQ.out] at hle;obtain ⟨a, m, c, vs⟩ := s;change _ + m <= _ at hle
     obtain ⟨h1, h2, h3⟩ := hso;change vs.length = m * 2 at h1
     change ∀ u ∈ vs, u.oneCell' = true at h2
     change (a = none /\ m = 0 /\ c = 0) \/ ∃ ad, a = some ad /\ _ at h3
     unfold Src.val at k0;have HCS : Hid (∃ v' w', (Builtin.append_ #[220, 220] 220 #[u6, .slice a m c]).run Tryz.prog wr = .ok v' w' /\ w'.ownsRow w.heap.size 222 2 v' (catN (ss.take j) + m) (catV (ss.take j) ++ vs) /\ wr.grownBy w' u6.ownBlock) := hd_ (by
      rcases h3 with ⟨rfl, rfl, rfl⟩ | ⟨ad, rfl, h3⟩
      ·have hv0 : vs = [] := List.eq_nil_of_length_eq_zero (by simpa using h1)
       subst hv0;exact ⟨_, _, run_append_owned_none (P := Tryz.prog) _ w.heap.size 220 _ 222 i0 2 Tryz.underlying220 HI.out.1 _ _ _ HV.out, by rw [List.append_nil, Nat.add_zero]; exact HV.out, World.grownBy.refl _ _⟩
      ·obtain ⟨v', w', e1, e2, e3, _⟩ := run_append_own (P := Tryz.prog) _ w.heap.size 220 220 222 i0 (Value.agg #[.int .i64 0, .slice none 0 0]) 2 32 Tryz.underlying220 HI.out.1 HI.out.2.1 HI.out.2.2.1 HI.out.2.2.2 rfl (by decide) _ _ _ HV.out ad m c vs h1 h3 h2 (by unfold maxLen; omega) (by omega) HB.out.size
       exact ⟨v', w', e1, e2, e3⟩)
     have hi1 : (j : Int) < (i : Int) := (by omega);have hic : ¬ sc = j := (by omega);clear hs h1 h2 h3 hle;go_wp2_with (at_builtin; go_must (refine wpList_of_append rfl (.tmp 31) (.tmp 32) 220 220 rfl HCS.out ?_; rintro v9 w9 ⟨ho9, hg9⟩; have HO9 := hd_ ho9; have HG9 := hd_ hg9; clear ho9 hg9))
     go_roundg (i - (j + 1))
     case measure => have := Hg.out; omega
     case rel =>
      refine ⟨j + 1, by omega, rfl, by go_num, ?_, HB.out.grown HG9.out HB.out.size (fun r e => (World.ownsRow.lt HV.out r e).1)⟩;rw [HT.out.1, HT.out.2];exact HO9.out
    ·obtain rfl : j = i := by omega
     have ht : ss.take j = ss := List.take_of_length_le (Nat.le_of_eq HN.out);have hv := HV.out;rw [ht, HQ.out] at hv;have HV2 := hd_ hv;clear ht hv;go_wp2_with fail
     go_ret
     exact ⟨_, rfl, by rw [HQ.out]; exact HV2.out, HB.out⟩
end Go.Proofs.YthpckmcgbmfmcaaGreatDoor
