/- Texts of this claim, joined. -/
import Derived.KernelRfl
import Derived.Test.YthpckmcgbmfmcaaGreatDoorM2
set_option maxRecDepth 100000
set_option maxHeartbeats 12800000
namespace Go.Proofs.YthpckmcgbmfmcaaGreatDoor.sm
theorem getD_mem {l : List Int} {k : Nat} (h : k < l.length) : l.getD k 0 ∈ l := by
 rw [List.getD_eq_getElem?_getD, List.getElem?_eq_getElem h]; exact List.getElem_mem h
theorem take_snoc {l : List Int} {k : Nat} (h : k < l.length) : l.take (k + 1) = l.take k ++ [l.getD k 0] := by
 rw [List.getD_eq_getElem?_getD, List.getElem?_eq_getElem h]; exact List.take_succ_eq_append_getElem h
def adl (s : Nat × Nat) (b : Int) : Nat × Nat := ((s.1 + b.toNat) % 65521, (s.2 + (s.1 + b.toNat) % 65521) % 65521)
def adlRaw (s : Nat × Nat) (l : List Int) : Nat × Nat := l.foldl adl s
def adlStart (sum : Nat) : Nat × Nat := (sum % 65536 % 65521, sum / 65536 % 65521)
def adlEnd (s : Nat × Nat) : Nat := 65536 * s.2 + s.1
def adlOn (sum : Nat) (l : List Int) : Nat := adlEnd (adlRaw (adlStart sum) l)
def adlW (s : Nat × Nat) (b : Int) : Nat × Nat := (s.1 + b.toNat, s.2 + (s.1 + b.toNat))
def adlWide (s : Nat × Nat) (l : List Int) : Nat × Nat := l.foldl adlW s
def adlMod (s : Nat × Nat) : Nat × Nat := (s.1 % 65521, s.2 % 65521)
theorem adlRaw_append (s : Nat × Nat) (l m : List Int) : adlRaw s (l ++ m) = adlRaw (adlRaw s l) m := by simp [adlRaw]
theorem adlWide_snoc (s : Nat × Nat) (l : List Int) (x : Int) : adlWide s (l ++ [x]) = adlW (adlWide s l) x := by simp [adlWide]
theorem adl_mod (s : Nat × Nat) (x : Int) : adl (adlMod s) x = adlMod (adlW s x) := by
 unfold adl adlMod adlW;simp only [Prod.mk.injEq];omega
theorem adlWide_mod (s : Nat × Nat) (l : List Int) : adlMod (adlWide s l) = adlRaw (adlMod s) l := by
 induction l generalizing s with
 | nil => rfl
 | cons x r ih =>
  show adlMod (adlWide (adlW s x) r) = adlRaw (adl (adlMod s) x) r;rw [ih, adl_mod]
theorem adlWide_le (s : Nat × Nat) (l : List Int) (hl : Bytes l) : (adlWide s l).1 <= s.1 + 255 * l.length /\ (adlWide s l).2 <= s.2 + (s.1 + 255 * l.length) * l.length := by
 induction l generalizing s with
 | nil => simp [adlWide]
 | cons x r ih =>
  have hx := hl x (by simp);have := ih (adlW s x) (fun y hy => hl y (by simp [hy]));have e : adlWide s (x :: r) = adlWide (adlW s x) r := rfl;have hb : x.toNat <= 255 := by omega
  rw [e];simp only [adlW, List.length_cons] at this ⊢;refine ⟨by omega, ?_⟩;have h1 : (s.1 + x.toNat + 255 * r.length) * r.length <= (s.1 + 255 * (r.length + 1)) * r.length := Nat.mul_le_mul_right _ (by omega);have h2 : (s.1 + 255 * (r.length + 1)) * (r.length + 1) = (s.1 + 255 * (r.length + 1)) * r.length + (s.1 + 255 * (r.length + 1)) := Nat.mul_succ _ _;omega
theorem adlRaw_lt {s : Nat × Nat} {l : List Int} (h : s.1 < 65521 /\ s.2 < 65521) : (adlRaw s l).1 < 65521 /\ (adlRaw s l).2 < 65521 := by
 induction l generalizing s with
 | nil => exact h
 | cons x r ih => exact ih ⟨Nat.mod_lt _ (by decide), Nat.mod_lt _ (by decide)⟩
theorem adlStart_lt (sum : Nat) : (adlStart sum).1 < 65521 /\ (adlStart sum).2 < 65521 := ⟨Nat.mod_lt _ (by decide), Nat.mod_lt _ (by decide)⟩
theorem adlOn_lt (sum : Nat) (l : List Int) : adlOn sum l < 4294967296 := by
 have := adlRaw_lt (l := l) (adlStart_lt sum);unfold adlOn adlEnd;omega
end Go.Proofs.YthpckmcgbmfmcaaGreatDoor.sm
namespace Go.Proofs.YthpckmcgbmfmcaaGreatDoor
open Go.RowKit
theorem sm.and_16 {c : Nat} (h : c < 4294967296) : bits BinOp.and IntKind.u32 (c : Int) 65535 = ((c % 65536 : Nat) : Int) := by
 have := u32_and_nat c 65535 h (by omega);rw [Nat.and_two_pow_sub_one_eq_mod c 16] at this;exact this
theorem sm.or_16 {s t : Nat} (h : s < 65536) (ht : t < 65536) : bits BinOp.or IntKind.u32 (65536 * (t : Int)) (s : Int) = ((65536 * t + s : Nat) : Int) := by
 have := u32_or_nat (65536 * t) s (by omega) (by omega);rw [<- Nat.two_pow_add_eq_or_of_lt (i := 16) h t] at this;exact this
theorem adlerOn_any (sum : Nat) (a : Option Addr) (n cap : Nat) (l : List Int) (w : World) (hs : sum < 4294967296) (hn : l.length = n) (hcap : n <= cap) (hm : cap <= maxLen) (hb : sm.Bytes l) (hr : Rd .u8 w a l) :
  Calls Tryz.prog 57 #[.int .u32 (sum : Nat), .slice a n cap] w fun e w' => e = .returned (.int .u32 (sm.adlOn sum l : Nat)) /\ w = w' := by
 unfold maxLen at hm;have Hr := hd_ hr;have Hn := hd_ hn;have hlo := sm.and_16 hs;have hst := sm.adlStart_lt sum;clear hr hn;go_enter Tryz.func57, Tryz.ntmps57
 go_wp2
 go_loopg [1, 5, 6] n (fun gk v s t wr => wr = w /\ ∃ (p c1 : Nat) (a1 : Option Addr), gk = n - p /\ p <= n /\ n - p <= c1 /\ c1 <= cap /\ v = .slice a1 (n - p) c1 /\ Rd .u8 w a1 (l.drop p) /\ s = .int .u32 ((sm.adlRaw (sm.adlStart sum) (l.take p)).1 : Nat) /\ t = .int .u32 ((sm.adlRaw (sm.adlStart sum) (l.take p)).2 : Nat))
 case atStart => exact ⟨rfl, 0, cap, a, rfl, by omega, by omega, by omega, rfl, Hr.out, rfl, rfl⟩
 case round =>
  obtain ⟨rfl, p, c1, a1, hg, hp, hc1, hc2, rfl, hr1, rfl, rfl⟩ := hrel;have Hg := hd_ hg;have Hr1 := hd_ hr1;clear hg hr1;by_cases hpn : p < n
  ·have hbd := sm.adlRaw_lt (l := l.take p) hst
   have HA : Hid (∀ q, sm.adlRaw (sm.adlStart sum) (l.take (p + q)) = sm.adlMod (sm.adlWide (sm.adlRaw (sm.adlStart sum) (l.take p)) ((l.drop p).take q))) := hd_ (by
    intro q;rw [sm.adlWide_mod];have e : sm.adlMod (sm.adlRaw (sm.adlStart sum) (l.take p)) = sm.adlRaw (sm.adlStart sum) (l.take p) := by
     unfold sm.adlMod;rw [Nat.mod_eq_of_lt hbd.1, Nat.mod_eq_of_lt hbd.2]
    rw [e, <- sm.adlRaw_append, List.take_add])
   generalize sm.adlRaw (sm.adlStart sum) (l.take p) = st at *;have Hlen : Hid ((l.drop p).length = n - p) := hd_ (by rw [List.length_drop, Hn.out]);have Hb : Hid (sm.Bytes (l.drop p)) := hd_ (hb.drop p);generalize hll : l.drop p = ll at *;have HLL := hd_ hll;clear hll;go_upto_region 3 with fail
   go_cut [7] (fun s7 wx => wx = wr /\ ∃ q : Nat, s7 = .int .i64 q /\ 0 < q /\ q <= n - p /\ q <= 3000)
   case first =>
    go_wp2
    all_goals go_meet
    all_goals first
     | exact ⟨rfl, n - p, rfl, by omega, by omega, by omega⟩
     | exact ⟨rfl, 3000, rfl, by omega, by omega, by omega⟩
   case rest =>
    obtain ⟨rfl, q, rfl, hq0, hq1, hq2⟩ := hcut;go_wp2
    go_loopg [5, 6, 26] q (fun gk s t i wx => wx = wc /\ ∃ j : Nat, j <= q /\ gk = q - j /\ i = .int .i64 j /\ s = .int .u32 ((sm.adlWide st (ll.take j)).1 : Nat) /\ t = .int .u32 ((sm.adlWide st (ll.take j)).2 : Nat))
    case atStart => exact ⟨rfl, 0, by omega, rfl, rfl, rfl, rfl⟩
    case round =>
     obtain ⟨rfl, j, hj, hgk, rfl, rfl, rfl⟩ := hrel;have Hgk := hd_ hgk;clear hgk;have hle := sm.adlWide_le st (ll.take j) (Hb.out.take j);have hlj : (ll.take j).length = j := (by rw [List.length_take, Hlen.out]; omega);rw [hlj] at hle;clear hlj;have hj3 : (st.1 + 255 * j) * j <= 830521 * 3000 := Nat.mul_le_mul (by omega) (by omega);by_cases hjq : j < q
     ·obtain ⟨b, off, rfl⟩ := Hr1.out.at (by rw [Hlen.out]; omega)
      have hjl : j < ll.length := (by rw [Hlen.out]; omega);have hx := Hb.out (ll.getD j 0) (sm.getD_mem hjl);have HS : Hid (sm.adlWide st (ll.take (j + 1)) = sm.adlW (sm.adlWide st (ll.take j)) (ll.getD j 0)) := hd_ (by rw [sm.take_snoc hjl, sm.adlWide_snoc]);have hc1 := Hr1.out.cell j hjl;clear hjl;generalize sm.adlWide st (ll.take j) = sw at *;obtain ⟨x, hx0⟩ : ∃ x : Nat, ll.getD j 0 = (x : Int) := ⟨(ll.getD j 0).toNat, by omega⟩;rw [hx0] at hc1 hx HS;clear hx0;have hs1 : sw.1 + x <= 830521 := (by omega);have hs2 : sw.2 + (sw.1 + x) < 4294967296 := (by omega);clear hle hj3;go_wp2
      go_roundg (q - (j + 1))
      case measure => have := Hgk.out; omega
      case rel => exact ⟨rfl, j + 1, by omega, rfl, by go_num, by rw [HS.out]; unfold sm.adlW; rw [Int.toNat_natCast]; go_num, by rw [HS.out]; unfold sm.adlW; rw [Int.toNat_natCast]; go_num⟩
     ·obtain rfl : j = q := by omega
      have HT := hd_ (HA.out j);have HL : Hid ((l.drop p).drop j = l.drop (p + j)) := hd_ (by rw [List.drop_drop]);have hmd : sm.adlMod (sm.adlWide st (ll.take j)) = ((sm.adlWide st (ll.take j)).1 % 65521, (sm.adlWide st (ll.take j)).2 % 65521) := rfl;have HM := hd_ hmd;clear hmd;obtain ⟨b, off, rfl⟩ := Hr1.out.at (by rw [Hlen.out]; omega);clear hle hj3;by_cases hcj : c1 = j
      ·obtain rfl : n - p = j := by omega
       have hcj' : (c1 : Int) = ((n - p : Nat) : Int) := (by omega);go_wp2
       go_roundg (n - (p + (n - p)))
       case measure => have := Hg.out; omega
       case rel => exact ⟨rfl, p + (n - p), 0, _, rfl, by omega, by omega, by omega, by rw [show n - (p + (n - p)) = 0 from by omega], .inl (List.drop_of_length_le (by rw [Hn.out]; omega)), by rw [HT.out, HM.out]; go_num, by rw [HT.out, HM.out]; go_num⟩
      ·have hd1 := Hr1.out.drop j
       have HD := hd_ hd1;clear hd1;go_wp2
       go_roundg (n - (p + j))
       case measure => have := Hg.out; omega
       case rel => exact ⟨rfl, p + j, c1 - j, _, rfl, by omega, by omega, by omega, by rw [Nat.sub_sub], by rw [<- HL.out, HLL.out]; exact HD.out, by rw [HT.out, HM.out]; go_num, by rw [HT.out, HM.out]; go_num⟩
  ·obtain rfl : p = n := by omega
   have hbd := sm.adlRaw_lt (l := l) hst;have HF : Hid (sm.adlRaw (sm.adlStart sum) (l.take p) = sm.adlRaw (sm.adlStart sum) l) := hd_ (by rw [List.take_of_length_le (by rw [Hn.out]; omega)]);have HE : Hid (sm.adlOn sum l = 65536 * (sm.adlRaw (sm.adlStart sum) l).2 + (sm.adlRaw (sm.adlStart sum) l).1) := hd_ rfl;have HO := hd_ (sm.or_16 (s := (sm.adlRaw (sm.adlStart sum) l).1) (t := (sm.adlRaw (sm.adlStart sum) l).2) (by omega) (by omega));rw [HF.out];generalize sm.adlRaw (sm.adlStart sum) l = st at *;go_wp2
   go_ret
   refine ⟨?_, rfl⟩;show Ending.returned (Value.int .u32 (bits BinOp.or IntKind.u32 ((st.2 : Int) * 65536) (st.1 : Int))) = _;rw [Int.mul_comm, HO.out, HE.out]
theorem adler_any (a : Option Addr) (n cap : Nat) (l : List Int) (w : World) (hn : l.length = n) (hcap : n <= cap) (hm : cap <= maxLen) (hb : sm.Bytes l) (hr : Rd .u8 w a l) :
  Calls Tryz.prog 20 #[.slice a n cap] w fun e w' => e = .returned (.int .u32 (sm.adlOn 1 l : Nat)) /\ w = w' := by
 have H := hd_ (adlerOn_any 1 a n cap l w (by omega) hn hcap hm hb hr);clear hn hr;go_enter Tryz.func20, Tryz.ntmps20
 go_wp2_with (go_at_call 57; go_must (refine H.out.mono ?_; rintro e w1 ⟨rfl, rfl⟩))
 go_ret
 exact ⟨rfl, rfl⟩
end Go.Proofs.YthpckmcgbmfmcaaGreatDoor
