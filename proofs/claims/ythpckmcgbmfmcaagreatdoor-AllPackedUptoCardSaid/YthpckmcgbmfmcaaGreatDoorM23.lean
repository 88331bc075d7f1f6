/- Texts of this claim, joined. -/
import Derived.Test.YthpckmcgbmfmcaaGreatDoorM22
set_option maxRecDepth 100000
set_option maxHeartbeats 12800000
namespace Go.Proofs.YthpckmcgbmfmcaaGreatDoor
open Go.RowKit Go.Sort
namespace pf
def nz (ls : List Nat) : Nat := ls.countP (fun x => decide (0 < x))
def one (ls : List Nat) : Bool := ls.foldl (fun b x => if 0 < x then x == 1 else b) false
theorem nz_take {ls : List Nat} {i : Nat} (h : i < ls.length) : nz (ls.take (i + 1)) = nz (ls.take i) + if 0 < ls.getD i 0 then 1 else 0 := by
 rw [take_snocN h];unfold nz;rw [List.countP_append, List.countP_singleton];simp
theorem one_take {ls : List Nat} {i : Nat} (h : i < ls.length) : one (ls.take (i + 1)) = if 0 < ls.getD i 0 then ls.getD i 0 == 1 else one (ls.take i) := by
 rw [take_snocN h];unfold one;rw [List.foldl_append];rfl
theorem nz_le (ls : List Nat) : nz ls <= ls.length := List.countP_le_length
end pf
theorem code_any (a : Option Addr) (n cap : Nat) (ls : List Nat) (none' : Bool) (w : World) (h : Sl .i64 w a n cap (nats ls)) (hn : n <= 4096) (hok : pf.Ok ls) (hroom : pf.kraft ls = 65536 \/ (pf.nz ls = 1 /\ pf.one ls = true) \/ (none' = true /\ pf.nz ls = 0)) :
  Calls Tryz.prog 116 #[.slice a n cap, .bool none'] w fun e w' => ∃ g tv, e = .returned (.pointer (some ⟨g, 0, none⟩)) /\ Dec w.heap.size w' g ls tv /\ Below w.heap.size w w' := by
 have hl : ls.length = n := by have := h.len; rwa [nats_length] at this
 have CR := hd_ (room_any a n cap ls w h hn hok.le);have CN := hd_ (new_any a n cap ls w h hn hok);have HS := hd_ h;have HOK := hd_ hok;have HRM := hd_ hroom;have HL := hd_ hl;have hkr := hok.room;have HKR := hd_ hkr;clear h hok hroom;go_enter Tryz.func116, Tryz.ntmps116
 go_wp2_with fail
 refine CR.out.mono ?_;rintro e w1 ⟨rfl, rfl⟩;clear CR;go_wp2_with fail
 go_loopg [7, 8, 20] n (fun gk s7 s8 s20 wr => ∃ i : Nat, i <= n /\ gk = n - i /\ s7 = .int .i64 (pf.nz (ls.take i) : Nat) /\ s8 = .bool (pf.one (ls.take i)) /\ s20 = .int .i64 (i : Nat) /\ wr = w)
 case atStart => exact ⟨0, Nat.zero_le _, rfl, rfl, rfl, by go_num, rfl⟩
 case round =>
  obtain ⟨i, hi, hg, rfl, rfl, rfl, rfl⟩ := hrel;have Hg := hd_ hg;clear hg;have hzl := pf.nz_le (ls.take i);rw [List.length_take] at hzl;by_cases hlt : i < n
  ·have HZ := hd_ (pf.nz_take (ls := ls) (i := i) (by omega))
   have HO := hd_ (pf.one_take (ls := ls) (i := i) (by omega));obtain ⟨bb, bo, rfl, hcl⟩ := HS.out.cells (by omega);have c0 := hcl i hlt;rw [nats_get] at c0;have hl16 := HOK.out.le _ (pf.getD_mem (s := i) (by omega));obtain ⟨z, hz⟩ : ∃ z, pf.nz (ls.take i) = z := ⟨_, rfl⟩;obtain ⟨o, ho⟩ : ∃ o, pf.one (ls.take i) = o := ⟨_, rfl⟩;obtain ⟨y, hy⟩ : ∃ y, ls.getD i 0 = y := ⟨_, rfl⟩;rw [hz] at HZ hzl ⊢;rw [ho] at HO ⊢;rw [hy] at HZ HO c0 hl16;have e1 : IntKind.i64.wrap ((z : Int) + 1) = ((z + 1 : Nat) : Int) := i64o (by omega) (by omega);have hin : (i : Int) < (n : Int) := (by omega);clear hcl hz ho hy hl hkr;by_cases hy0 : 0 < y
   ·have hyi : 0 < (y : Int) := by omega
    rw [if_pos hy0] at HZ HO;by_cases hy1 : y = 1
    ·subst hy1
     go_wp2_with fail
     go_roundg (n - (i + 1))
     case measure => have := Hg.out; omega
     case rel => exact ⟨i + 1, by omega, rfl, by rw [HZ.out]; exact congrArg _ (by omega), by rw [HO.out]; rfl, by go_num, rfl⟩
    ·have hyn : ((y : Int) == 1) = false := by simp; omega
     have hyn2 : (y == 1) = false := (by simpa using hy1);rw [hyn2] at HO;go_wp2_with fail
     go_roundg (n - (i + 1))
     case measure => have := Hg.out; omega
     case rel => exact ⟨i + 1, by omega, rfl, by rw [HZ.out]; exact congrArg _ (by omega), by rw [HO.out], by go_num, rfl⟩
   ·have hyi : ¬ 0 < (y : Int) := by omega
    rw [if_neg hy0] at HZ HO;go_wp2_with fail
    go_roundg (n - (i + 1))
    case measure => have := Hg.out; omega
    case rel => exact ⟨i + 1, by omega, rfl, by rw [HZ.out]; rfl, by rw [HO.out], by go_num, rfl⟩
  ·obtain rfl : i = n := by omega
   have htk : ls.take i = ls := List.take_of_length_le (by omega);rw [htk];have HRM := HRM.out;obtain ⟨z, hz⟩ : ∃ z, pf.nz ls = z := ⟨_, rfl⟩;obtain ⟨o, ho⟩ : ∃ o, pf.one ls = o := ⟨_, rfl⟩;obtain ⟨kr, hk⟩ : ∃ z, pf.kraft ls = z := ⟨_, rfl⟩;rw [hz, ho] at HRM ⊢;rw [hk] at HRM hkr ⊢;by_cases hk6 : kr = 65536
   ·have hr0 : (65536 - (kr : Int)) = 0 := by omega
    rw [hr0];go_wp2_with fail
    refine CN.out.mono ?_;rintro e w5 ⟨g, tv, rfl, hd, hb⟩;have HD := hd_ hd;have HB := hd_ hb;clear hd hb CN;go_wp2_with fail
    go_ret
    exact ⟨g, tv, rfl, HD.out, HB.out⟩
   ·have hr0 : ¬ (65536 - (kr : Int)) = 0 := by omega
    obtain ⟨rm, hrm⟩ : ∃ z, (65536 - (kr : Int)) = z := ⟨_, rfl⟩;rw [hrm] at hr0 ⊢;rcases HRM with h1 | ⟨h1, h2⟩ | ⟨h1, h2⟩
    ·exact absurd h1 hk6
    ·subst h1 h2
     clear hz ho hk hrm hkr hk6;go_wp2_with fail
     refine CN.out.mono ?_;rintro e w5 ⟨g, tv, rfl, hd, hb⟩;have HD := hd_ hd;have HB := hd_ hb;clear hd hb CN;go_wp2_with fail
     go_ret
     exact ⟨g, tv, rfl, HD.out, HB.out⟩
    ·subst h1 h2
     clear hz ho hk hrm hkr hk6;go_wp2_with fail
     refine CN.out.mono ?_;rintro e w5 ⟨g, tv, rfl, hd, hb⟩;have HD := hd_ hd;have HB := hd_ hb;clear hd hb CN;go_wp2_with fail
     go_ret
     exact ⟨g, tv, rfl, HD.out, HB.out⟩
namespace pf
theorem one_mem (ls : List Nat) (h : one ls = true) : 1 ∈ ls := by
 have key : ∀ (l : List Nat) (b : Bool), l.foldl (fun b x => if 0 < x then x == 1 else b) b = true -> b = true \/ 1 ∈ l := by
  intro l
  induction l with
  | nil => intro b h; exact .inl h
  | cons a r ih =>
   intro b h;rcases ih _ h with h1 | h1
   ·have h1 : (if 0 < a then a == 1 else b) = true := h1
    by_cases ha : 0 < a
    ·rw [if_pos ha] at h1
     exact .inr (by rw [show a = 1 by simpa using h1]; simp)
    ·rw [if_neg ha] at h1
     exact .inl h1
   ·exact .inr (List.mem_cons_of_mem _ h1)
 rcases key ls false h with h1 | h1
 ·cases h1
 ·exact h1
theorem ones_le (ls : List Nat) : ls.count 1 <= nz ls := by
 unfold nz List.count;refine List.countP_mono_left fun x _ h => ?_
 have : x = 1 := by simpa using h
 subst this;decide
theorem ones_take {ls : List Nat} {i : Nat} (h : i < ls.length) : (ls.take (i + 1)).count 1 = (ls.take i).count 1 + if ls.getD i 0 = 1 then 1 else 0 := by
 rw [take_snocN h, List.count_append, List.count_singleton];simp
end pf
theorem rroom_any (a : Option Addr) (n cap : Nat) (ls : List Nat) (w : World) (h : Sl .i64 w a n cap (nats ls)) (hn : n <= 4096) (hle : ∀ l ∈ ls, l <= 16) :
  Calls Tryz.prog 121 #[.slice a n cap] w fun e w' => e = .returned (.tuple #[.int .i64 (65536 - (pf.kraft ls : Int)), .int .i64 0]) /\ w = w' := by
 have hl : ls.length = n := by have := h.len; rwa [nats_length] at this
 have HS := hd_ h;have HL := hd_ hl;have HLE := hd_ hle;have hfit := h.fits;clear h hl hle;go_enter Tryz.func121, Tryz.ntmps121
 go_wp2_with fail
 go_loopg [4, 5] n (fun gk s4 s12 wr => w = wr /\ ∃ i : Nat, i <= n /\ gk = n - i /\ s4 = .int .i64 (65536 - (pf.kraft (ls.take i) : Int)) /\ s12 = .int .i64 (i : Nat))
 case atStart => exact ⟨rfl, 0, Nat.zero_le _, rfl, rfl, by go_num⟩
 case round =>
  obtain ⟨rfl, i, hi, hg, rfl, rfl⟩ := hrel;have Hg := hd_ hg;clear hg;by_cases hlt : i < n
  ·obtain ⟨b, off, rfl, hc⟩ := HS.out.cells (by omega)
   have k0 := hc i hlt;rw [nats_get] at k0;have h16 := HLE.out _ (pf.getD_mem (ls := ls) (s := i) (by rw [HL.out]; exact hlt));have HT := hd_ (pf.kraft_take (ls := ls) (i := i) (by rw [HL.out]; exact hlt));have hk := pf.kraft_le (ls.take i);rw [List.length_take, HL.out] at hk;obtain ⟨l, hl⟩ : ∃ l, ls.getD i 0 = l := ⟨_, rfl⟩;rw [hl] at k0 h16 HT;obtain ⟨q, hq⟩ : ∃ q, pf.kraft (ls.take i) = q := ⟨_, rfl⟩;rw [hq] at hk HT ⊢;have hi1 : (i : Int) < (n : Int) := (by omega);have hic : ¬ cap = i := (by omega);have hq2 : q <= 134217728 := (by omega);clear hc hl hq hk;by_cases hl0 : 0 < l
   ·obtain ⟨s, hs⟩ : ∃ s, 16 - l = s := ⟨_, rfl⟩
    have hs1 : (16 : Int) - (l : Int) = (s : Int) := (by omega);obtain ⟨p2, hp⟩ : ∃ p2, 2 ^ s = p2 := ⟨_, rfl⟩;have hp2 : p2 <= 32768 := by
     have : 2 ^ s <= 2 ^ 15 := Nat.pow_le_pow_right (by decide) (by omega);omega
    have p1 : IntKind.i64.wrap (2 ^ s) = (p2 : Int) := by
     have e1 : ((2 : Int) ^ s) = (p2 : Int) := (by rw [<- hp]; simp);rw [e1];exact i64i (by omega)
    have HP : Hid (pf.part l = p2) := hd_ (by unfold pf.part; rw [if_neg (by omega), hs]; exact hp);have hs16 : s <= 16 := (by omega);clear hp hs;go_wp2_with fail
    go_roundg (n - (i + 1))
    case measure => have := Hg.out; omega
    case rel => exact ⟨rfl, i + 1, by omega, rfl, by rw [HT.out, HP.out]; exact congrArg (Value.int .i64) (by omega), by go_num⟩
   ·obtain rfl : l = 0 := by omega
    go_wp2_with fail
    go_roundg (n - (i + 1))
    case measure => have := Hg.out; omega
    case rel => exact ⟨rfl, i + 1, by omega, rfl, congrArg (fun z : Nat => Value.int .i64 (65536 - (z : Int))) HT.out.symm, by go_num⟩
  ·obtain rfl : i = n := by omega
   have ht : ls.take i = ls := List.take_of_length_le (Nat.le_of_eq HL.out);rw [ht];go_wp2_with fail
   go_ret2
   exact ⟨rfl, rfl⟩
theorem rmay_any (a : Option Addr) (n cap : Nat) (ls : List Nat) (none' : Bool) (w : World) (h : Sl .i64 w a n cap (nats ls)) (hn : n <= 4096) (hok : pf.Ok ls) (hroom : pf.kraft ls = 65536 \/ (pf.nz ls = 1 /\ pf.one ls = true) \/ (none' = true /\ pf.nz ls = 0)) :
  Calls Tryz.prog 73 #[.slice a n cap, .bool none'] w fun e w' => e = .returned (.bool true) /\ w = w' := by
 have hl : ls.length = n := by have := h.len; rwa [nats_length] at this
 have CR := hd_ (rroom_any a n cap ls w h hn hok.le);have HS := hd_ h;have HL := hd_ hl;have HOK := hd_ hok;have HRM := hd_ hroom;have hfit := h.fits;clear h hl hok hroom;go_enter Tryz.func73, Tryz.ntmps73
 go_wp2_with fail
 go_loopg [5, 6, 7] n (fun gk s5 s6 s7 wr => w = wr /\ ∃ i : Nat, i <= n /\ gk = n - i /\ s5 = .int .i64 (pf.nz (ls.take i) : Nat) /\ s6 = .int .i64 ((ls.take i).count 1 : Nat) /\ s7 = .int .i64 (i : Nat))
 case atStart => exact ⟨rfl, 0, Nat.zero_le _, rfl, rfl, rfl, by go_num⟩
 case round =>
  obtain ⟨rfl, i, hi, hg, rfl, rfl, rfl⟩ := hrel;have Hg := hd_ hg;clear hg;have hzl := pf.nz_le (ls.take i);have hol := List.count_le_length (a := 1) (l := ls.take i);rw [List.length_take] at hzl hol;by_cases hlt : i < n
  ·obtain ⟨b, off, rfl, hc⟩ := HS.out.cells (by omega)
   have k0 := hc i hlt;rw [nats_get] at k0;have HZ := hd_ (pf.nz_take (ls := ls) (i := i) (by rw [HL.out]; exact hlt));have HO := hd_ (pf.ones_take (ls := ls) (i := i) (by rw [HL.out]; exact hlt));obtain ⟨l, hl⟩ : ∃ l, ls.getD i 0 = l := ⟨_, rfl⟩;rw [hl] at k0 HZ HO;obtain ⟨z, hz⟩ : ∃ z, pf.nz (ls.take i) = z := ⟨_, rfl⟩;obtain ⟨o, ho⟩ : ∃ z, (ls.take i).count 1 = z := ⟨_, rfl⟩;rw [hz] at HZ hzl ⊢;rw [ho] at HO hol ⊢;have hi1 : (i : Int) < (n : Int) := (by omega);have hic : ¬ cap = i := (by omega);have wz : IntKind.i64.wrap ((z : Int) + 1) = ((z + 1 : Nat) : Int) := i64o (by omega) (by omega);have wo : IntKind.i64.wrap ((o : Int) + 1) = ((o + 1 : Nat) : Int) := i64o (by omega) (by omega);clear hc hl hz ho hzl hol;rcases Nat.lt_trichotomy l 1 with h1 | h1 | h1
   ·obtain rfl : l = 0 := by omega
    go_wp2_with fail
    go_roundg (n - (i + 1))
    case measure => have := Hg.out; omega
    case rel => exact ⟨rfl, i + 1, by omega, rfl, by rw [HZ.out]; rfl, by rw [HO.out]; rfl, by go_num⟩
   ·subst h1
    go_wp2_with fail
    go_roundg (n - (i + 1))
    case measure => have := Hg.out; omega
    case rel => exact ⟨rfl, i + 1, by omega, rfl, by rw [HZ.out]; rfl, by rw [HO.out]; rfl, by go_num⟩
   ·have h0 : (0 : Int) < (l : Int) := by omega
    have hne : ((l : Int) == 1) = false := (by simp; omega);have hl0 : 0 < l := (by omega);have hl1 : ¬ l = 1 := (by omega);rw [if_pos hl0] at HZ;rw [if_neg hl1] at HO;go_wp2_with fail
    go_roundg (n - (i + 1))
    case measure => have := Hg.out; omega
    case rel => exact ⟨rfl, i + 1, by omega, rfl, by rw [HZ.out]; rfl, by rw [HO.out]; rfl, by go_num⟩
  ·obtain rfl : i = n := by omega
   have ht : ls.take i = ls := List.take_of_length_le (Nat.le_of_eq HL.out);rw [ht];have hkr := HOK.out.room;obtain ⟨q, hq⟩ : ∃ q, pf.kraft ls = q := ⟨_, rfl⟩;obtain ⟨z, hz⟩ : ∃ z, pf.nz ls = z := ⟨_, rfl⟩;obtain ⟨o, ho⟩ : ∃ z, ls.count 1 = z := ⟨_, rfl⟩;have hone : z = 1 -> pf.one ls = true -> o = 1 := fun h1 h2 => by
    have h3 := pf.ones_le ls;have h4 := List.count_pos_iff.2 (pf.one_mem ls h2);omega
   have hrm := HRM.out;rw [hz, ho];rw [hq] at CR hkr hrm;rw [hz] at hrm;clear ht hzl hol Hg hlt;go_wp2_with fail
   refine CR.out.mono ?_;rintro e w2 ⟨rfl, rfl⟩;clear CR;by_cases hk : q = 65536
   ·subst hk
    go_wp2_with fail
    go_ret
    exact ⟨rfl, rfl⟩
   ·have hk' : ((65536 - (q : Int)) == 0) = false := by simp; omega
    rcases hrm with h | ⟨h1, h2⟩ | ⟨h1, h2⟩
    ·exact absurd h hk
    ·have h3 := hone h1 h2
     subst h1 h3;go_wp2_with fail
     go_ret
     exact ⟨rfl, rfl⟩
    ·subst h1 h2
     go_wp2_with fail
     go_ret
     exact ⟨rfl, rfl⟩
namespace df
theorem symM_16 {u size : Nat} (hs : 0 < size) (h : u <= 65536) : symM u size <= 16 := by
 refine symM_le hs (K := 16) ?_;have : 1 * 2 ^ 17 <= size * 2 ^ 17 := Nat.mul_le_mul_right _ hs;omega
end df
theorem i64_mask (u k : Nat) (hu : u < 4611686018427387904) (hk : 2 ^ k < 4611686018427387904) : bits .and .i64 (u : Int) ((2 ^ k - 1 : Nat) : Int) = ((u % 2 ^ k : Nat) : Int) := by
 have e : ∀ n : Nat, n < 4611686018427387904 -> (BitVec.ofInt 64 (n : Int)).toNat = n := fun n hn => by
  rw [BitVec.toNat_ofInt];omega
 have hx := Nat.mod_le u (2 ^ k);show IntKind.i64.wrap ((BitVec.ofInt 64 (u : Int) &&& BitVec.ofInt 64 ((2 ^ k - 1 : Nat) : Int)).toNat : Int) = _;rw [BitVec.toNat_and, e u hu, e _ (by omega), Nat.and_two_pow_sub_one_eq_mod, IntKind.wrap_i64];omega
theorem symbol_any (w : World) (v size frm : Nat) (hs : 0 < size) (hs2 : size <= 16) (hf : frm <= v) (hf2 : frm <= 16) (hv : v <= 65536) :
  Calls Tryz.prog 136 #[.int .i64 v, .int .i64 size, .int .i64 frm] w fun e w' => e = .returned (.tuple #[.int .i64 (df.symS (v - frm) size : Nat), .int .i64 (df.symX (v - frm) size : Nat), .int .i64 (df.symM (v - frm) size : Nat)]) /\ Below w.heap.size w w' := by
 obtain ⟨u, hu⟩ : ∃ u, v - frm = u := ⟨_, rfl⟩;have e1 : IntKind.i64.wrap ((v : Int) - (frm : Int)) = (u : Int) := i64o (by omega) (by omega);have e2 : IntKind.i64.wrap (2 * (size : Int)) = ((2 * size : Nat) : Int) := i64o (by omega) (by omega);have hu6 : u <= 65536 := by omega
 have hM := df.symM_16 hs hu6;have HL := hd_ (fun m (h : 2 * size <= u) (h1 : m < df.symM u size) => df.symM_least hs h h1);have HS := hd_ (df.symM_stop (v := u) hs);have HSM := hd_ (fun h : u < 2 * size => df.symM_small h);have hsS : df.symS u size = df.symM u size * size + u / 2 ^ df.symM u size := rfl;have hsX : df.symX u size = u % 2 ^ df.symM u size := rfl;rw [hu, hsS, hsX];obtain ⟨M, hMe⟩ : ∃ M, df.symM u size = M := ⟨_, rfl⟩;rw [hMe] at hM HL HS HSM ⊢;obtain ⟨z, hz⟩ : ∃ z, 2 * size = z := ⟨_, rfl⟩;rw [hz] at e2 HL HS HSM;have hz1 : 1 <= z := by omega
 have hz2 : z <= 32 := by omega
 clear hu hMe hsS hsX hz hf;by_cases hsm : u < z
 ·obtain rfl := HSM.out hsm
  rw [Nat.zero_mul, Nat.pow_zero, Nat.div_one, Nat.mod_one, Nat.zero_add];go_enter Tryz.func136, Tryz.ntmps136
  go_wp2_with fail
  go_ret3
  exact ⟨rfl, Below.refl _ _⟩
 ·have hsm2 : z <= u := by omega
  clear HSM;go_enter Tryz.func136, Tryz.ntmps136
  go_wp2_with fail
  go_loopg [9] M (fun gk s9 wr => ∃ k : Nat, k <= M /\ gk = M - k /\ s9 = .int .i64 (k : Nat) /\ wr = w)
  case atStart => exact ⟨0, Nat.zero_le _, rfl, by go_num, rfl⟩
  case round =>
   obtain ⟨k, hk, hg, rfl, rfl⟩ := hrel;have hk16 : k <= 16 := (by omega);have hpw : 2 ^ k <= 2 ^ 16 := Nat.pow_le_pow_right (by decide) hk16;have hzp : z * 2 ^ k <= 32 * 2 ^ 16 := Nat.mul_le_mul hz2 hpw;have e5 : (z : Int) * 2 ^ k = ((z * 2 ^ k : Nat) : Int) := (by simp);have hstop : k < M -> z * 2 ^ k <= u := fun h => HL.out k hsm2 h
   have hstop2 : k = M -> u < z * 2 ^ k := fun h => by rw [h]; exact HS.out
   obtain ⟨y, hy⟩ : ∃ y, z * 2 ^ k = y := ⟨_, rfl⟩;rw [hy] at hzp e5 hstop hstop2;have e6 : IntKind.i64.wrap (y : Int) = (y : Int) := i64i (by omega);obtain ⟨k1, hk1⟩ : ∃ k1, k + 1 = k1 := ⟨_, rfl⟩;have e7 : IntKind.i64.wrap ((k : Int) + 1) = (k1 : Int) := i64o (by omega) (by omega);by_cases hkm : k < M
   ·have hyu := hstop hkm
    clear hstop hstop2 HL HS hy;go_wp2_with fail
    go_roundg (M - k1)
    case measure => omega
    case rel => exact ⟨k1, by omega, rfl, by go_num, rfl⟩
   ·obtain rfl : k = M := by omega
    have hyu : ¬ y <= u := (by have := hstop2 rfl; omega);have e8 : (u : Int) / ((2 ^ k : Nat) : Int) = ((u / 2 ^ k : Nat) : Int) := rfl;have hq := Nat.div_le_self u (2 ^ k);have hmod := Nat.mod_le u (2 ^ k);have hmul : k * size <= 16 * 16 := Nat.mul_le_mul hk16 hs2;have e13 : (k : Int) * (size : Int) = ((k * size : Nat) : Int) := (by simp);have e9 : (1 : Int) * 2 ^ k = ((2 ^ k : Nat) : Int) := (by simp);have e9b : (2 : Int) ^ k = ((2 ^ k : Nat) : Int) := (by simp);have e5c : (z : Int) * ((2 ^ k : Nat) : Int) = (y : Int) := (by rw [<- hy]; simp);have hp0 : 1 <= 2 ^ k := Nat.two_pow_pos k;have HA := i64_mask u k (by omega) (by omega);obtain ⟨pw, hpwe⟩ : ∃ pw, 2 ^ k = pw := ⟨_, rfl⟩;rw [hpwe] at e8 hq hmod e9 e9b e5c HA hpw hp0;obtain ⟨qq, hqq⟩ : ∃ qq, u / pw = qq := ⟨_, rfl⟩;obtain ⟨mm, hmm⟩ : ∃ mm, u % pw = mm := ⟨_, rfl⟩;obtain ⟨ml, hml⟩ : ∃ ml, k * size = ml := ⟨_, rfl⟩;rw [hqq] at e8 hq;rw [hmm] at hmod HA;rw [hml] at hmul e13;have e10 : IntKind.i64.wrap (pw : Int) = (pw : Int) := i64i (by omega);obtain ⟨pm, hpm⟩ : ∃ pm, pw - 1 = pm := ⟨_, rfl⟩;rw [hpm] at HA;have e11 : IntKind.i64.wrap ((pw : Int) - 1) = (pm : Int) := i64o (by omega) (by omega);have e12 : IntKind.i64.wrap (ml : Int) = (ml : Int) := i64i (by omega);obtain ⟨sy, hsy⟩ : ∃ sy, ml + qq = sy := ⟨_, rfl⟩;have e14 : IntKind.i64.wrap ((ml : Int) + (qq : Int)) = (sy : Int) := i64o (by omega) (by omega);have e15 : IntKind.i64.wrap (qq : Int) = (qq : Int) := i64i (by omega);have H1 := hd_ hpwe;have H2 := hd_ hqq;have H3 := hd_ hmm;have H4 := hd_ hml;have H5 := hd_ hsy;clear hstop hstop2 HL HS hy e5 hpwe hqq hmm hml hpm hsy;go_upto_region 8 with (fail)
    go_quiet (fail)
    have HB := hd_ (below_drewN (Below.refl wr.heap.size wr) nq);generalize wr.drewN nq = w2 at *;go_wp2_with fail
    go_ret3
    rw [H1.out, H2.out, H3.out, H4.out, H5.out];exact ⟨rfl, HB.out⟩
theorem length_any (w : World) (n : Nat) (h3 : 3 <= n) (h : n <= 258) :
  Calls Tryz.prog 104 #[.int .i64 n] w fun e w' => e = .returned (.tuple #[.int .i64 (df.lenS n : Nat), .int .i64 (df.lenX n : Nat), .int .i64 (df.lenM n : Nat)]) /\ Below w.heap.size w w' := by
 have hr := df.lenS_range h;have KS := hd_ (fun w => symbol_any w n 4 3 (by decide) (by decide) h3 (by decide) (by omega));by_cases he : n = 258
 ·subst he
  have e1 : df.lenS 258 = 285 := rfl;have e2 : df.lenX 258 = 0 := rfl;have e3 : df.lenM 258 = 0 := rfl;rw [e1, e2, e3];clear KS hr e1 e2 e3;go_enter Tryz.func104, Tryz.ntmps104
  go_wp2_with fail
  go_ret3
  exact ⟨rfl, Below.refl _ _⟩
 ·have hne : ¬ (n : Int) = 258 := by omega
  have e1 : df.lenS n = 257 + df.symS (n - 3) 4 := if_neg he;have e2 : df.lenX n = df.symX (n - 3) 4 := if_neg he;have e3 : df.lenM n = df.symM (n - 3) 4 := if_neg he;rw [e1, e2, e3];rw [e1] at hr;obtain ⟨a, ha⟩ : ∃ a, df.symS (n - 3) 4 = a := ⟨_, rfl⟩;obtain ⟨b, hb⟩ : ∃ b, df.symX (n - 3) 4 = b := ⟨_, rfl⟩;obtain ⟨c, hc⟩ : ∃ c, df.symM (n - 3) 4 = c := ⟨_, rfl⟩;rw [ha, hb, hc] at KS;rw [ha] at hr;rw [ha, hb, hc];obtain ⟨t, ht⟩ : ∃ t, 257 + a = t := ⟨_, rfl⟩;have e4 : IntKind.i64.wrap (257 + (a : Int)) = (t : Int) := i64o (by omega) (by omega);rw [ht];clear hr e1 e2 e3 ha hb hc ht h3 h;go_enter Tryz.func104, Tryz.ntmps104
  go_wp2_with fail
  refine (KS.out _).mono ?_;rintro e w2 ⟨rfl, hb⟩;have HB := hd_ hb;clear hb KS;go_wp2_with fail
  go_ret3
  exact ⟨rfl, HB.out⟩
theorem distance_any (w : World) (k : Nat) (h1 : 1 <= k) (h : k <= 32768) :
  Calls Tryz.prog 105 #[.int .i64 k] w fun e w' => e = .returned (.tuple #[.int .i64 (df.disS k : Nat), .int .i64 (df.disX k : Nat), .int .i64 (df.disM k : Nat)]) /\ Below w.heap.size w w' := by
 have KS := hd_ (fun w => symbol_any w k 2 1 (by decide) (by decide) h1 (by decide) (by omega));have e1 : df.disS k = df.symS (k - 1) 2 := rfl;have e2 : df.disX k = df.symX (k - 1) 2 := rfl;have e3 : df.disM k = df.symM (k - 1) 2 := rfl;rw [e1, e2, e3];obtain ⟨a, ha⟩ : ∃ a, df.symS (k - 1) 2 = a := ⟨_, rfl⟩;obtain ⟨b, hb⟩ : ∃ b, df.symX (k - 1) 2 = b := ⟨_, rfl⟩;obtain ⟨c, hc⟩ : ∃ c, df.symM (k - 1) 2 = c := ⟨_, rfl⟩;rw [ha, hb, hc] at KS;rw [ha, hb, hc];clear e1 e2 e3 ha hb hc h1 h;go_enter Tryz.func105, Tryz.ntmps105
 go_wp2_with fail
 refine (KS.out _).mono ?_;rintro e w2 ⟨rfl, hb⟩;have HB := hd_ hb;clear hb KS;go_wp2_with fail
 go_ret3
 exact ⟨rfl, HB.out⟩
theorem df.one_bit (c i n k : Nat) (hi : i = n - 1 - k) : bt.bitsOf false (c / 2 ^ i) 1 = [decide (c / 2 ^ (if true then n - 1 - k else k) % 2 = 1)] := by
 subst hi;simp [bt.bitsOf, Nat.testBit_eq_decide_div_mod_eq]
def df.EmitPost (base g : Nat) (up : Bool) (L : List Bool) (w : World) (e : Ending) (w' : World) : Prop := e = .returned (.tuple #[]) /\ ∃ v', bt.Wr base w' g up L v' /\ bt.Fr base g w w'
theorem emit_any {base g : Nat} {w : World} {L : List Bool} {v : Value} (h : bt.Wr base w g false L v) (hb : base <= w.heap.size) (c n : Nat) (hc : c < 4294967296) (hn : n <= 32) (hL : L.length + 64 <= 1099511627776) :
  Calls Tryz.prog 103 #[.pointer (some ⟨g, 0, none⟩), .int .u32 c, .int .i64 n] w (df.EmitPost base g false (L ++ bt.bitsOf true c n) w) := by
 have HH := hd_ h;clear h;have e0 : IntKind.i64.wrap ((n : Int) - 1) = (n : Int) - 1 := i64i (by omega);go_enter Tryz.func103, Tryz.ntmps103
 go_wp2_with fail
 go_loopg [6] n (fun gk s6 wr => ∃ (k : Nat) (v' : Value), k <= n /\ gk = n - k /\ s6 = .int .i64 ((n : Int) - 1 - (k : Int)) /\ bt.Wr base wr g false (L ++ (bt.bitsOf true c n).take k) v' /\ bt.Fr base g w wr)
 case atStart => exact ⟨0, v, Nat.zero_le _, rfl, by go_num, by simpa using HH.out, bt.Fr.refl _ _ _⟩
 case round =>
  obtain ⟨k, v', hk, hg, rfl, hwr, hfr⟩ := hrel;have Hg := hd_ hg;have HF := hd_ hfr;have hl : (L ++ (bt.bitsOf true c n).take k).length + 32 <= 1099511627776 := by
   have := bt.bitsOf_length true c n;rw [List.length_append, List.length_take];omega
  by_cases hlt : k < n
  ·obtain ⟨i, hi⟩ : ∃ i, n - 1 - k = i := ⟨_, rfl⟩
   have ei : (n : Int) - 1 - (k : Int) = (i : Int) := (by omega);have hq : c / 2 ^ i < 4294967296 := Nat.lt_of_le_of_lt (Nat.div_le_self _ _) hc;have CP := hd_ (put_any hwr (Nat.le_trans hb hfr.below.size) (c / 2 ^ i) 1 hq (by decide) hl);have HT := hd_ (bt.take_succ true c n k hlt);have HO := hd_ (df.one_bit c i n k hi.symm);have e1 : (c : Int) / 2 ^ i = ((c / 2 ^ i : Nat) : Int) := (by simp);obtain ⟨q, hqe⟩ : ∃ q, c / 2 ^ i = q := ⟨_, rfl⟩;rw [hqe] at e1 CP hq HO;have hi32 : i < 32 := (by omega);rw [ei];have HI := hd_ ei;have e2 : IntKind.u32.wrap (q : Int) = (q : Int) := (by rw [IntKind.wrap_u32]; omega);have e3 : IntKind.i64.wrap ((i : Int) - 1) = (i : Int) - 1 := i64i (by omega);clear hg hwr hfr hl hqe hi ei;go_wp2_with fail
   refine CP.out.mono ?_;rintro e w2 ⟨rfl, v2, hw2, hf2⟩;rw [List.append_assoc, HO.out, <- HT.out] at hw2;have HW2 := hd_ hw2;have HF2 := hd_ (HF.out.trans hf2);clear hw2 hf2 CP;go_wp2_with fail
   go_roundg (n - (k + 1))
   case measure => have := Hg.out; omega
   case rel => exact ⟨k + 1, v2, by omega, rfl, congrArg _ (by have := HI.out; omega), HW2.out, HF2.out⟩
  ·obtain rfl : k = n := by omega
   have HW := hd_ hwr;have e4 : (k : Int) - 1 - (k : Int) = -1 := (by omega);rw [e4];clear hg hwr hfr hl e4;go_wp2_with fail
   refine bodyPost_end (results_none rfl _ _ _) rfl ?_;refine ⟨rfl, v', ?_, HF.out⟩;have h2 := HW.out
   rwa [List.take_of_length_le (by rw [bt.bitsOf_length]; exact Nat.le_refl _)] at h2
end Go.Proofs.YthpckmcgbmfmcaaGreatDoor
namespace Go.Proofs.YthpckmcgbmfmcaaGreatDoor
open Go.RowKit Go.Sort Go.Shelf
attribute [local go_sem] Oper.semAt_some
theorem Sl.same {k : IntKind} {w w' : World} {b off n c : Nat} {l : List Int} (h : Sl k w (some ⟨b, off, none⟩) n c l) (hb : w'.heap[b]? = w.heap[b]?) : Sl k w' (some ⟨b, off, none⟩) n c l := by
 refine ⟨h.len, h.fits, h.most, h.bare, h.wf, ?_⟩;rcases h.rd with h0 | ⟨b', off', e, hc⟩
 ·exact .inl h0
 ·simp only [Option.some.injEq, Addr.mk.injEq, and_true] at e
  obtain ⟨rfl, rfl⟩ := e;exact .inr ⟨b, off, rfl, fun i hi => (World.cell?_of_block (a := ⟨b, off + i, none⟩) hb).trans (hc i hi)⟩
end Go.Proofs.YthpckmcgbmfmcaaGreatDoor
