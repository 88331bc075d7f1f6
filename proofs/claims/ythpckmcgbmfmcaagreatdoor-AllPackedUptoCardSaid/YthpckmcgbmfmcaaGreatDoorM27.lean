/- Texts of this claim, joined. -/
import Derived.Test.YthpckmcgbmfmcaaGreatDoorM26
set_option maxRecDepth 100000
set_option maxHeartbeats 12800000
namespace Go.Proofs.YthpckmcgbmfmcaaGreatDoor
open Go.RowKit Go.Sort
namespace so
section
variable {α : Type} {key : α -> Nat}
def Blk (key : α -> Nat) (f : Nat -> α) (n d : Nat) : Prop := ∀ p, d ∣ p -> Srt key f p (min (p + d) n)
def Ahead (key : α -> Nat) (f : Nat -> α) (a d : Nat) : Prop := ∀ p, d ∣ p -> p < a -> Srt key f p (p + d)
def Behind (key : α -> Nat) (f : Nat -> α) (n a d : Nat) : Prop := ∀ p, d ∣ p -> a <= p -> Srt key f p (min (p + d) n)
theorem dvd_gap {d p a : Nat} (h1 : d ∣ p) (h2 : d ∣ a) (h : p < a) : p + d <= a := by
 obtain ⟨x, rfl⟩ := h1;obtain ⟨y, rfl⟩ := h2;have : x < y := Nat.lt_of_mul_lt_mul_left h
 rw [<- Nat.mul_succ];exact Nat.mul_le_mul_left _ this
theorem Srt.congr {f g : Nat -> α} {a b : Nat} (h : Srt key f a b) (he : ∀ k, a <= k -> k < b -> g k = f k) : Srt key g a b := fun i j k1 k2 k3 => by
 rw [he i k1 (by omega), he j (by omega) k3];exact h i j k1 k2 k3
theorem Ahead.next {f g : Nat -> α} {a d : Nat} (h : Ahead key f a d) (ha : d ∣ a) (he : ∀ k, k < a -> g k = f k) (hs : Srt key g a (a + d)) : Ahead key g (a + d) d := by
 intro p hp hlt;rcases Nat.lt_or_ge p a with h1 | h1
 ·have := dvd_gap hp ha h1
  exact (h p hp h1).congr fun k k1 k2 => he k (by omega)
 ·rcases Nat.eq_or_lt_of_le h1 with rfl | h2
  ·exact hs
  ·have := dvd_gap ha hp h2
   omega
theorem Behind.next {f g : Nat -> α} {n a b d : Nat} (h : Behind key f n a d) (hab : a <= b) (he : ∀ k, b <= k -> g k = f k) : Behind key g n b d := fun p hp h1 => (h p hp (by omega)).congr fun k k1 k2 => he k (by omega)
theorem Ahead.whole {f g : Nat -> α} {n a d : Nat} (h : Ahead key f a d) (ha : d ∣ a) (han : a <= n) (hd : n < a + d) (he : ∀ k, k < a -> g k = f k) (hs : Srt key g a n) : Blk key g n d := by
 intro p hp;rcases Nat.lt_or_ge p a with h1 | h1
 ·have := dvd_gap hp ha h1
  rw [Nat.min_eq_left (by omega)];exact (h p hp h1).congr fun k k1 k2 => he k (by omega)
 ·rcases Nat.eq_or_lt_of_le h1 with rfl | h2
  ·rw [Nat.min_eq_right (by omega)]
   exact hs
  ·have := dvd_gap ha hp h2
   intro i j k1 k2 k3;omega
end
end so
theorem kstable_any (base b cap : Nat) (t : List Cn) (w : World) (h : RowK base w b cap t) (hl : t.length <= 1073741824) :
  Calls Tryz.prog 158 #[.slice (some ⟨b, 0, none⟩) t.length cap, .int .i64 t.length, .func (.func 139) #[] #[]] w (SortPost base b cap 0 t.length t w) := by
 have HR := hd_ h;obtain ⟨n, hn⟩ : ∃ n, t.length = n := ⟨_, rfl⟩;rw [hn] at hl ⊢;have HN := hd_ hn;clear h hn;go_enter Tryz.func158, Tryz.ntmps158
 go_wp2_with fail
 go_loopg [7, 8] n (fun gk s7 s8 wr => ∃ (a : Nat) (t1 : List Cn), gk = n - a /\ a <= n /\ 20 ∣ a /\ s7 = .int .i64 a /\ s8 = .int .i64 (a + 20 : Nat) /\ so.PermIn Cn.zero 0 n t t1 /\ so.Ahead Cn.w (so.at' Cn.zero t1) a 20 /\ RowK base wr b cap t1 /\ w.grownBy wr (some b))
 case atStart => exact ⟨0, t, rfl, Nat.zero_le _, Nat.dvd_zero _, rfl, rfl, so.PermIn.refl _ _ _ _, fun p _ h => by omega, HR.out, World.grownBy.refl _ _⟩
 case round =>
  obtain ⟨a, t1, hg, ha, hdv, rfl, rfl, hm, hs, hr, hgw⟩ := hrel;have Hg := hd_ hg;have HDV := hd_ hdv;have HM := hd_ hm;have HSo := hd_ hs;have HR1 := hd_ hr;have HG := hd_ hgw;have HL1 := hd_ (hm.perm.length_eq.trans HN.out);clear hg hdv hm hs hr hgw;obtain ⟨a2, ha2⟩ : ∃ a2, a + 20 = a2 := ⟨_, rfl⟩;rw [ha2];have s20 : (a2 : Int) + 20 = ((a2 + 20 : Nat) : Int) := by omega
  have S20 := hd_ s20;have HA2 := hd_ ha2;clear s20;by_cases hle : a2 <= n
  ·have hle' : decide (a2 <= n) = true := decide_eq_true hle
   have ha2b : a2 <= 1073741824 := (by omega);have CS := hd_ (kinsertion_any base b cap t1 a a2 wr HR1.out (by omega) (by have := HL1.out; omega) (by have := HL1.out; omega));rw [HL1.out] at CS;clear ha2 hle;go_wp2_with fail
   refine CS.out.mono ?_;rintro e w2 ⟨rfl, t2, hm2, hs2, hr2, hg2⟩;have H2 := hd_ (And.intro hm2 (And.intro hs2 (And.intro hr2 hg2)));clear hm2 hs2 hr2 hg2 CS;go_wp2_with fail
   go_roundg (n - a2)
   case measure => have := Hg.out; have := HA2.out; have := of_decide_eq_true hle'; omega
   case rel =>
    have hb := of_decide_eq_true hle';have h2 := HA2.out;refine ⟨a2, t2, rfl, hb, by have := HDV.out; omega, rfl, by go_num, HM.out.trans (H2.out.1.wide (Nat.zero_le _) hb), ?_, H2.out.2.2.1, HG.out.trans H2.out.2.2.2⟩;have h3 := H2.out.2.1;rw [<- h2] at h3 ⊢;exact HSo.out.next HDV.out (fun k hk => H2.out.1.out k (.inl hk)) h3
  ·have hle' : decide (a2 <= n) = false := decide_eq_false hle
   have CS := hd_ (kinsertion_any base b cap t1 a n wr HR1.out (by omega) (by have := HL1.out; omega) (by have := HL1.out; omega));rw [HL1.out] at CS;have HAN : Hid (n < a + 20) := hd_ (by omega);clear ha2 hle;go_wp2_with fail
   refine CS.out.mono ?_;rintro e w2 ⟨rfl, t2, hm2, hs2, hr2, hg2⟩;have HM2 := hd_ (HM.out.trans (hm2.wide (Nat.zero_le _) (Nat.le_refl _)));have HB2 := hd_ (HSo.out.whole HDV.out ha HAN.out (g := so.at' Cn.zero t2) (fun k hk => hm2.out k (.inl hk)) hs2);have HR2 := hd_ hr2;have HG2 := hd_ (HG.out.trans hg2);clear hm2 hs2 hr2 hg2 CS;go_wp2_with fail
   clear HM HSo HR1 HG HL1 HA2 S20 hle' Hg HAN HDV;go_loopg [6, 7, 8, 9] (n - 20) (fun gk s6 s7 s8 s9 wr => ∃ (bs : Nat) (t1 : List Cn), gk = n - bs /\ 1 <= bs /\ bs <= 2 * n + 20 /\ s6 = .int .i64 bs /\ so.PermIn Cn.zero 0 n t t1 /\ so.Blk Cn.w (so.at' Cn.zero t1) n bs /\ RowK base wr b cap t1 /\ w.grownBy wr (some b))
   case atStart => exact ⟨20, t2, rfl, by decide, by omega, rfl, HM2.out, HB2.out, HR2.out, HG2.out⟩
   case round =>
    obtain ⟨bs, t1, hg, hb1, hb2, rfl, hm, hs, hr, hgw⟩ := hrel;have Hg := hd_ hg;clear HM2 HB2 HR2 HG2;have HM2 := hd_ hm;have HBl := hd_ hs;have HR2 := hd_ hr;have HG2 := hd_ hgw;clear hg hm hs hr hgw;by_cases hlt : bs < n
    ·have hlt' : decide (bs < n) = true := decide_eq_true hlt
     obtain ⟨b2, hb2e⟩ : ∃ b2, 2 * bs = b2 := ⟨_, rfl⟩;have sb : (2 : Int) * (bs : Int) = (b2 : Int) := (by omega);have sb' : (bs : Int) * 2 = (b2 : Int) := (by omega);have HB2 := hd_ hb2e;have HDB : Hid (bs ∣ b2) := hd_ ⟨2, by rw [<- hb2e, Nat.mul_comm]⟩;clear hb2e;go_wp2_with fail
     go_loopg [7, 8] n (fun gk s7 s8 wr => ∃ (a : Nat) (t1 : List Cn), gk = n - a /\ a <= n /\ b2 ∣ a /\ s7 = .int .i64 a /\ s8 = .int .i64 (a + b2 : Nat) /\ so.PermIn Cn.zero 0 n t t1 /\ so.Ahead Cn.w (so.at' Cn.zero t1) a b2 /\ so.Behind Cn.w (so.at' Cn.zero t1) n a bs /\ RowK base wr b cap t1 /\ w.grownBy wr (some b))
     case atStart => exact ⟨0, t1, rfl, Nat.zero_le _, Nat.dvd_zero _, rfl, by rw [Nat.zero_add], HM2.out, (fun p _ h => by omega), (fun p hp _ => HBl.out p hp), HR2.out, HG2.out⟩
     case round =>
      obtain ⟨a, t1, hg, ha, hdv, rfl, rfl, hm, hsa, hsb, hr, hgw⟩ := hrel;have Hg3 := hd_ hg;clear HM2 HR2 HG2 HBl;have HDV := hd_ hdv;have HM2 := hd_ hm;have HSA := hd_ hsa;have HSB := hd_ hsb;have HR2 := hd_ hr;have HG2 := hd_ hgw;have HL1 := hd_ (hm.perm.length_eq.trans HN.out);clear hg hdv hm hsa hsb hr hgw;obtain ⟨y, hy⟩ : ∃ y, a + b2 = y := ⟨_, rfl⟩;obtain ⟨m, hm⟩ : ∃ m, a + bs = m := ⟨_, rfl⟩;rw [hy];have sm : (a : Int) + (bs : Int) = (m : Int) := (by omega);have HY := hd_ hy;have HMM := hd_ hm;have ham : a < m := (by omega);have hmb : m <= 4294967296 := (by omega);have HDM : Hid (bs ∣ a /\ bs ∣ m) := hd_ (by
       have h1 : bs ∣ a := Nat.dvd_trans HDB.out HDV.out;exact ⟨h1, by rw [<- hm]; exact Nat.dvd_add h1 (Nat.dvd_refl _)⟩)
      clear hy hm;by_cases hle : y <= n
      ·have hle2 : decide (y <= n) = true := decide_eq_true hle
       have hs1 : so.Srt Cn.w (so.at' Cn.zero t1) a m := by
        have := HSB.out a HDM.out.1 (Nat.le_refl _)
        rwa [HMM.out, Nat.min_eq_left (by have := HY.out; have := HMM.out; have := HB2.out; omega)] at this
       have hs2 : so.Srt Cn.w (so.at' Cn.zero t1) m y := by
        have := HSB.out m HDM.out.2 (by omega)
        rwa [show m + bs = y by have := HY.out; have := HMM.out; have := HB2.out; omega, Nat.min_eq_left hle] at this
       have CS := hd_ (kmerge_any base b cap (y - a) t1 a m y wr (Nat.le_refl _) HR2.out ham (by have := HY.out; have := HMM.out; have := HB2.out; omega) (by have := HL1.out; omega) (by have := HL1.out; omega) hs1 hs2);rw [HL1.out] at CS;clear hle hs1 hs2;go_wp2_with fail
       refine CS.out.mono ?_;rintro e w2 ⟨rfl, t2, hm2, hs2, hr2, hg2⟩;have H2 := hd_ (And.intro hm2 (And.intro hs2 (And.intro hr2 hg2)));clear hm2 hs2 hr2 hg2 CS;have sy : (y : Int) + (b2 : Int) = ((y + b2 : Nat) : Int) := (by omega);have hy3 : y + b2 <= 8589934592 := (by have := HB2.out; have := of_decide_eq_true hle2; omega);have SY := hd_ sy;clear sy;go_wp2_with fail
       go_roundg (n - y)
       case measure => have := Hg3.out; have := HY.out; have := HB2.out; have := of_decide_eq_true hle2; omega
       case rel =>
        have hyn := of_decide_eq_true hle2;have h2 := HY.out;refine ⟨y, t2, rfl, hyn, by rw [<- h2]; exact Nat.dvd_add HDV.out (Nat.dvd_refl _), rfl, by go_num, HM2.out.trans (H2.out.1.wide (Nat.zero_le _) hyn), ?_, HSB.out.next (by omega) (fun k hk => H2.out.1.out k (.inr hk)), H2.out.2.2.1, HG2.out.trans H2.out.2.2.2⟩;have h3 := H2.out.2.1;rw [<- h2] at h3 ⊢;exact HSA.out.next HDV.out (fun k hk => H2.out.1.out k (.inl hk)) h3
      ·have hle2 : decide (y <= n) = false := decide_eq_false hle
       have HNY : Hid (n < a + b2) := hd_ (by have := HY.out; omega);clear hle;by_cases hmn : m < n
       ·have hmn' : decide (m < n) = true := decide_eq_true hmn
        have hs1 : so.Srt Cn.w (so.at' Cn.zero t1) a m := by
         have := HSB.out a HDM.out.1 (Nat.le_refl _)
         rwa [HMM.out, Nat.min_eq_left (by omega)] at this
        have hs2 : so.Srt Cn.w (so.at' Cn.zero t1) m n := by
         have := HSB.out m HDM.out.2 (by omega)
         rwa [Nat.min_eq_right (by have := HNY.out; have := HMM.out; have := HB2.out; omega)] at this
        have CS := hd_ (kmerge_any base b cap (n - a) t1 a m n wr (Nat.le_refl _) HR2.out ham hmn (by have := HL1.out; omega) (by have := HL1.out; omega) hs1 hs2);rw [HL1.out] at CS;clear hmn hs1 hs2;go_wp2_with fail
        refine CS.out.mono ?_;rintro e w2 ⟨rfl, t2, hm2, hs2, hr2, hg2⟩;have H2 := hd_ (And.intro hm2 (And.intro hs2 (And.intro hr2 hg2)));clear hm2 hs2 hr2 hg2 CS;go_wp2_with fail
        go_roundg (n - b2)
        case measure => have := Hg.out; have := HB2.out; omega
        case rel => exact ⟨b2, t2, rfl, by have := HB2.out; omega, by have := HB2.out; omega, rfl, HM2.out.trans (H2.out.1.wide (Nat.zero_le _) (Nat.le_refl _)), HSA.out.whole HDV.out ha HNY.out (fun k hk => H2.out.1.out k (.inl hk)) H2.out.2.1, H2.out.2.2.1, HG2.out.trans H2.out.2.2.2⟩
       ·have hmn' : decide (m < n) = false := decide_eq_false hmn
        have HS2 : Hid (so.Srt Cn.w (so.at' Cn.zero t1) a n) := hd_ (by
         have := HSB.out a HDM.out.1 (Nat.le_refl _)
         rwa [HMM.out, Nat.min_eq_right (by omega)] at this)
        clear hmn;go_wp2_with fail
        go_roundg (n - b2)
        case measure => have := Hg.out; have := HB2.out; omega
        case rel => exact ⟨b2, t1, rfl, by have := HB2.out; omega, by have := HB2.out; omega, rfl, HM2.out, HSA.out.whole HDV.out ha HNY.out (fun k _ => rfl) HS2.out, HR2.out, HG2.out⟩
    ·have hlt' : decide (bs < n) = false := decide_eq_false hlt
     have HS2 : Hid (so.Srt Cn.w (so.at' Cn.zero t1) 0 n) := hd_ (by
      have := HBl.out 0 (Nat.dvd_zero _)
      rwa [Nat.zero_add, Nat.min_eq_right (by omega)] at this)
     clear hlt;go_wp2_with fail
     refine bodyPost_end (results_none rfl _ _ _) rfl ?_;exact ⟨rfl, t1, HM2.out, HS2.out, HR2.out, HG2.out⟩
theorem ksort_any (base b cap : Nat) (t : List Cn) (w : World) (h : RowK base w b cap t) (hl : t.length <= 1073741824) :
  Calls Tryz.prog 141 #[.slice (some ⟨b, 0, none⟩) t.length cap, .func (.func 139) #[] #[]] w (SortPost base b cap 0 t.length t w) := by
 have CS := hd_ (kstable_any base b cap t w h hl);clear h;go_enter Tryz.func141, Tryz.ntmps141
 go_wp2_with fail
 refine CS.out.mono ?_;rintro e w2 ⟨rfl, h2⟩;have H2 := hd_ h2;clear h2 CS;go_wp2_with fail
 refine bodyPost_end (results_none rfl _ _ _) rfl ?_;exact ⟨rfl, H2.out⟩
end Go.Proofs.YthpckmcgbmfmcaaGreatDoor
namespace Go.Proofs.YthpckmcgbmfmcaaGreatDoor
namespace pm
structure Coin where
 w : Nat
 s : List Nat
def merge (p : Coin × Coin) : Coin := ⟨p.1.w + p.2.w, p.1.s ++ p.2.s⟩
def pairs : List Coin -> List (Coin × Coin)
 | a :: b :: r => (a, b) :: pairs r
 | _ => []
def Sorted (r : List Coin) : Prop := r.Pairwise fun a b => a.w <= b.w
def own (wt : Nat -> Nat) (U : List Nat) : List Coin := U.map fun i => ⟨wt i, [i]⟩
inductive Rows (o : List Coin) : Nat -> List Coin -> Prop
 | base {r : List Coin} : r.Perm o -> Sorted r -> Rows o 0 r
 | step {k : Nat} {r r' : List Coin} : Rows o k r -> r'.Perm (o ++ (pairs r).map merge) -> Sorted r' -> Rows o (k + 1) r'
def syms (l : List Coin) : List Nat := l.flatMap (·.s)
def cnt (l : List Coin) (s : Nat) : Nat := (syms l).count s
def Dom (C N : List Coin) : Prop := ∀ c ∈ C, ∀ x ∈ N, c.w <= x.w
theorem cnt_append (a b : List Coin) (s : Nat) : cnt (a ++ b) s = cnt a s + cnt b s := by simp [cnt, syms]
theorem cnt_perm {a b : List Coin} (h : a.Perm b) (s : Nat) : cnt a s = cnt b s := (h.flatMap_right _).count_eq s
theorem perm_split {α : Type} : ∀ {l1 l2 m1 m2 : List α}, (l1 ++ l2).Perm (m1 ++ m2) -> ∃ a b c d, l1.Perm (a ++ b) /\ l2.Perm (c ++ d) /\ m1.Perm (a ++ c) /\ m2.Perm (b ++ d)
 | [], l2, m1, m2, h => ⟨[], [], m1, m2, .refl _, h, .refl _, .refl _⟩
 | x :: t, l2, m1, m2, h => by
  have hx : x ∈ m1 ++ m2 := h.subset (by simp);rcases List.mem_append.1 hx with hx | hx
  ·obtain ⟨u, v, rfl⟩ := List.append_of_mem hx
   have h' : (t ++ l2).Perm ((u ++ v) ++ m2) := by
    have : (x :: (t ++ l2)).Perm (x :: ((u ++ v) ++ m2)) := h.trans (by rw [List.append_assoc, List.cons_append, List.append_assoc]; exact List.perm_middle);exact this.cons_inv
   obtain ⟨a, b, c, d, h1, h2, h3, h4⟩ := perm_split h';exact ⟨x :: a, b, c, d, h1.cons x, h2, List.perm_middle.trans (h3.cons x), h4⟩
  ·obtain ⟨u, v, rfl⟩ := List.append_of_mem hx
   have h' : (t ++ l2).Perm (m1 ++ (u ++ v)) := by
    have : (x :: (t ++ l2)).Perm (x :: (m1 ++ (u ++ v))) := h.trans (by rw [<- List.append_assoc, <- List.append_assoc]; exact List.perm_middle);exact this.cons_inv
   obtain ⟨a, b, c, d, h1, h2, h3, h4⟩ := perm_split h';refine ⟨a, x :: b, c, d, (h1.cons x).trans List.perm_middle.symm, h2, h3, List.perm_middle.trans (h4.cons x)⟩
theorem perm_map {α β : Type} (f : α -> β) : ∀ {P : List α} {l : List β}, l.Perm (P.map f) -> ∃ P' : List α, P'.Perm P /\ l = P'.map f
 | P, [], h => ⟨[], by have := h.length_eq; rw [List.length_map] at this; rw [List.length_eq_zero_iff.1 this.symm], rfl⟩
 | P, x :: t, h => by
  have hx : x ∈ P.map f := h.subset (by simp);obtain ⟨p, hp, rfl⟩ := List.mem_map.1 hx;obtain ⟨u, v, rfl⟩ := List.append_of_mem hp;have h' : t.Perm ((u ++ v).map f) := by
   have : (f p :: t).Perm (f p :: (u ++ v).map f) := h.trans (by rw [List.map_append, List.map_cons, List.map_append]; exact List.perm_middle);exact this.cons_inv
  obtain ⟨P', h1, h2⟩ := perm_map f h';exact ⟨p :: P', (h1.cons p).trans List.perm_middle.symm, by rw [h2]; rfl⟩
def flat (P : List (Coin × Coin)) : List Coin := P.flatMap fun p => [p.1, p.2]
theorem flat_append (a b : List (Coin × Coin)) : flat (a ++ b) = flat a ++ flat b := by simp [flat]
theorem flat_length (P : List (Coin × Coin)) : (flat P).length = 2 * P.length := by
 induction P with
 | nil => rfl
 | cons p r ih =>
  show (p.1 :: p.2 :: flat r).length = _;simp only [List.length_cons, ih];omega
theorem pairs_flat : ∀ r : List Coin, ∃ z, r = flat (pairs r) ++ z /\ z.length <= 1 /\ (pairs r).length = r.length / 2
 | [] => ⟨[], rfl, by simp, rfl⟩
 | [a] => ⟨[a], rfl, by simp, by simp [pairs]⟩
 | a :: b :: r => by
  obtain ⟨z, h1, h2, h3⟩ := pairs_flat r;refine ⟨z, ?_, h2, ?_⟩
  ·show a :: b :: r = a :: b :: (flat (pairs r) ++ z)
   rw [<- h1]
  ·show (pairs r).length + 1 = (r.length + 2) / 2
   omega
theorem syms_merge (P : List (Coin × Coin)) : syms (P.map merge) = syms (flat P) := by
 induction P with
 | nil => rfl
 | cons p r ih =>
  show (p.1.s ++ p.2.s) ++ syms (r.map merge) = p.1.s ++ (p.2.s ++ syms (flat r));rw [ih, List.append_assoc]
def Apart (p q : Coin × Coin) : Prop := (p.1.w <= p.2.w /\ q.1.w <= q.2.w) /\ (p.2.w <= q.1.w \/ q.2.w <= p.1.w)
theorem pairs_apart : ∀ r : List Coin, Sorted r -> (pairs r).Pairwise Apart
 | [], _ => .nil
 | [a], _ => .nil
 | a :: b :: r, h => by
  have h1 := List.pairwise_cons.1 h;have h2 := List.pairwise_cons.1 h1.2;refine List.pairwise_cons.2 ⟨fun q hq => ?_, pairs_apart r h2.2⟩;obtain ⟨z, hz, _⟩ := pairs_flat r;obtain ⟨u, v, huv⟩ := List.append_of_mem hq;have hr : r = flat u ++ (q.1 :: q.2 :: (flat v ++ z)) := by
   rw [hz, huv, flat_append];simp [flat]
  have hqs : q.1.w <= q.2.w := by
   have := h2.2;rw [hr] at this;exact (List.pairwise_cons.1 (List.pairwise_append.1 this).2.1).1 _ (by simp)
  exact ⟨⟨h1.1 b (by simp), hqs⟩, .inl (h2.1 _ (by rw [hr]; simp))⟩
theorem heavy {wt : Nat -> Nat} {U : List Nat} {k : Nat} {R : List Coin} (h : Rows (own wt U) k R) : ∀ c ∈ R, ∀ s ∈ c.s, wt s <= c.w /\ s ∈ U := by
 have ho : ∀ c ∈ own wt U, ∀ s ∈ c.s, wt s <= c.w /\ s ∈ U := by
  intro c hc s hs;obtain ⟨i, hi, rfl⟩ := List.mem_map.1 hc;rw [List.mem_singleton.1 hs];exact ⟨Nat.le_refl _, hi⟩
 induction h with
 | base hp _ => exact fun c hc => ho c (hp.subset hc)
 | @step k r r' _ hp _ ih =>
  intro c hc s hs;rcases List.mem_append.1 (hp.subset hc) with h | h
  ·exact ho c h s hs
  ·obtain ⟨p, hpm, rfl⟩ := List.mem_map.1 h
   obtain ⟨z, hz, _⟩ := pairs_flat r;obtain ⟨u, v, huv⟩ := List.append_of_mem hpm;have hr : r = flat u ++ (p.1 :: p.2 :: (flat v ++ z)) := by
    rw [hz, huv, flat_append];simp [flat]
   rcases List.mem_append.1 hs with hs | hs
   ·have := ih p.1 (by rw [hr]; simp) s hs
    exact ⟨Nat.le_trans this.1 (Nat.le_add_right _ _), this.2⟩
   ·have := ih p.2 (by rw [hr]; simp) s hs
    exact ⟨Nat.le_trans this.1 (Nat.le_add_left _ _), this.2⟩
theorem weighs {wt : Nat -> Nat} {U : List Nat} (hw : ∀ i ∈ U, 0 < wt i) {k : Nat} {R : List Coin} (h : Rows (own wt U) k R) : ∀ c ∈ R, 0 < c.w := by
 induction h with
 | base hp _ =>
  intro c hc;obtain ⟨i, hi, rfl⟩ := List.mem_map.1 (hp.subset hc);exact hw i hi
 | @step k r r' _ hp _ ih =>
  intro c hc;rcases List.mem_append.1 (hp.subset hc) with h | h
  ·obtain ⟨i, hi, rfl⟩ := List.mem_map.1 h
   exact hw i hi
  ·obtain ⟨p, hpm, rfl⟩ := List.mem_map.1 h
   obtain ⟨z, hz, _⟩ := pairs_flat r;obtain ⟨u, v, huv⟩ := List.append_of_mem hpm;have hr : r = flat u ++ (p.1 :: p.2 :: (flat v ++ z)) := by
    rw [hz, huv, flat_append];simp [flat]
   have := ih p.1 (by rw [hr]; simp);show 0 < p.1.w + p.2.w;omega
def wide (K c : Nat) : Nat := 2 ^ K - 2 ^ (K - c)
theorem wide_zero (K : Nat) : wide K 0 = 0 := by simp [wide]
theorem wide_succ {K c : Nat} (h : c <= K) : wide (K + 1) (1 + c) = 2 ^ K + wide K c := by
 unfold wide;have h1 : K + 1 - (1 + c) = K - c := by omega
 have h2 : 2 ^ (K - c) <= 2 ^ K := Nat.pow_le_pow_right (by decide) (by omega);rw [h1, Nat.pow_succ];omega
theorem sum_perm {l m : List Nat} (h : l.Perm m) : l.sum = m.sum := by
 induction h with
 | nil => rfl
 | cons x _ ih => simp [ih]
 | swap x y l => simp; omega
 | trans _ _ ih1 ih2 => exact ih1.trans ih2
theorem sum_map_zero {α : Type} {f : α -> Nat} {l : List α} (h : ∀ x ∈ l, f x = 0) : (l.map f).sum = 0 := by
 induction l with
 | nil => rfl
 | cons x r ih => simp [h x (by simp), ih fun y hy => h y (by simp [hy])]
theorem sum_map_add {α : Type} (f g : α -> Nat) (k : Nat) : ∀ l : List α, (∀ x ∈ l, f x = k + g x) -> (l.map f).sum = l.length * k + (l.map g).sum
 | [], _ => by simp
 | x :: r, h => by
  have := sum_map_add f g k r fun y hy => h y (by simp [hy])
  simp only [List.map_cons, List.sum_cons, List.length_cons, h x (by simp), this, Nat.succ_mul];omega
theorem syms_own (wt : Nat -> Nat) (U : List Nat) : syms (own wt U) = U := by
 induction U with
 | nil => rfl
 | cons x r ih =>
  show [x] ++ syms (own wt r) = _;rw [ih];rfl
theorem chosen {wt : Nat -> Nat} {U : List Nat} (hn : U.Nodup) (hw : ∀ i ∈ U, 0 < wt i) {k : Nat} {R : List Coin} (h : Rows (own wt U) k R) :
  ∀ {C N : List Coin}, R.Perm (C ++ N) -> Dom C N -> (∀ s, cnt C s <= k + 1) /\ ∀ K, k + 1 <= K -> (U.map fun s => wide K (cnt C s)).sum * 2 = C.length * 2 ^ K := by
 have leaf : ∀ (A A' : List Coin), (own wt U).Perm (A ++ A') -> (∀ s, cnt A s = if s ∈ syms A then 1 else 0) /\ U.Perm (syms A ++ syms A') /\ (syms A).length = A.length := by
  intro A A' hp;have hs : (syms (own wt U)).Perm (syms (A ++ A')) := hp.flatMap_right _;rw [syms_own, show syms (A ++ A') = syms A ++ syms A' by simp [syms]] at hs;have hnd : (syms A).Nodup := (List.nodup_append.1 (hs.nodup_iff.1 hn)).1;refine ⟨fun s => ?_, hs, ?_⟩
  ·unfold cnt
   rw [hnd.count]
  ·have h1 : ∀ c ∈ A, c.s.length = 1 := by
    intro c hc;obtain ⟨i, _, rfl⟩ := List.mem_map.1 (hp.symm.subset (List.mem_append_left _ hc));rfl
   clear hp hs hnd
   induction A with
   | nil => rfl
   | cons c r ih =>
    show (c.s ++ syms r).length = _;rw [List.length_append, h1 c (by simp), ih fun y hy => h1 y (by simp [hy]), List.length_cons, Nat.add_comm]
 induction h with
 | @base r hp _ =>
  intro C N hC _;obtain ⟨h1, h2, h3⟩ := leaf C N (hp.symm.trans hC);refine ⟨fun s => by rw [h1]; split <;> omega, fun K hK => ?_⟩;have e : (U.map fun s => wide K (cnt C s)).sum = ((syms C ++ syms N).map fun s => wide K (cnt C s)).sum := sum_perm (h2.map _);have hnd := h2.nodup_iff.1 hn;rw [List.nodup_append] at hnd;obtain ⟨K', rfl⟩ : ∃ K', K = K' + 1 := ⟨K - 1, by omega⟩;rw [e, List.map_append, List.sum_append, sum_map_zero (l := syms N) (fun s hs => by
   rw [h1, if_neg (fun h => hnd.2.2 s h s hs rfl), wide_zero]), sum_map_add _ (fun _ => 0) (2 ^ K') (syms C) (fun s hs => by
   rw [h1, if_pos hs];have := wide_succ (K := K') (c := 0) (by omega)
   rwa [wide_zero] at this), sum_map_zero (fun _ _ => rfl), h3, Nat.pow_succ]
  rw [Nat.add_zero, Nat.mul_assoc]
 | @step k r r' hr hp hs ih =>
  intro C N hC hD;have hall := hp.symm.trans hC;obtain ⟨A, A', B, D, h1, h2, h3, h4⟩ : ∃ A A' B D, (own wt U).Perm (A ++ A') /\ ((pairs r).map merge).Perm (B ++ D) /\ C.Perm (A ++ B) /\ N.Perm (A' ++ D) := by
   obtain ⟨a, b, c, d, k1, k2, k3, k4⟩ := perm_split hall;exact ⟨a, b, c, d, k1, k2, k3, k4⟩
  obtain ⟨P', hP', hB⟩ := perm_map merge h2.symm;have hsplit : P' = P'.take B.length ++ P'.drop B.length := (List.take_append_drop _ _).symm;obtain ⟨PB, hPB⟩ : ∃ x, P'.take B.length = x := ⟨_, rfl⟩;obtain ⟨PD, hPD⟩ : ∃ x, P'.drop B.length = x := ⟨_, rfl⟩;have hlen : P'.length = B.length + D.length := by
   have := congrArg List.length hB;rw [List.length_append, List.length_map] at this;omega
  have eB : B = PB.map merge := by
   have := congrArg (List.take B.length) hB;rw [List.take_left, <- List.map_take, hPB] at this;exact this
  have eD : D = PD.map merge := by
   have := congrArg (List.drop B.length) hB;rw [List.drop_left, <- List.map_drop, hPD] at this;exact this
  have hPP : (pairs r).Perm (PB ++ PD) := by
   rw [<- hPB, <- hPD, List.take_append_drop];exact hP'.symm
  obtain ⟨z, hz, hz1, _⟩ := pairs_flat r;have hrs : Sorted r := by cases hr <;> assumption
  have hC' : r.Perm (flat PB ++ (flat PD ++ z)) := by
   rw [<- List.append_assoc, <- flat_append];have : (flat (pairs r) ++ z).Perm (flat (PB ++ PD) ++ z) := (hPP.flatMap_right _).append_right _
   rwa [<- hz] at this
  have hap : (PB ++ PD).Pairwise Apart := (List.Perm.pairwise_iff (fun {a b} h => ⟨⟨h.1.2, h.1.1⟩, h.2.symm⟩) hPP).1 (pairs_apart r hrs);have hD' : Dom (flat PB) (flat PD ++ z) := by
   intro c hc x hx;rcases List.mem_append.1 hx with hx | hx
   ·obtain ⟨p, hp1, hp2⟩ := List.mem_flatMap.1 hc
    obtain ⟨q, hq1, hq2⟩ := List.mem_flatMap.1 hx;obtain ⟨⟨e1, e2⟩, e3⟩ := (List.pairwise_append.1 hap).2.2 p hp1 q hq1;have hw := hD (merge p) (h3.symm.subset (List.mem_append_right _ (by rw [eB]; exact List.mem_map_of_mem hp1))) (merge q) (h4.symm.subset (List.mem_append_right _ (by rw [eD]; exact List.mem_map_of_mem hq1)));change p.1.w + p.2.w <= q.1.w + q.2.w at hw
    simp at hp2 hq2;rcases hp2 with rfl | rfl <;> rcases hq2 with rfl | rfl <;> rcases e3 with e3 | e3 <;> omega
   ·have hcr : c ∈ flat (pairs r) := (hPP.flatMap_right (fun p => [p.1, p.2])).symm.subset (by
     show c ∈ flat (PB ++ PD);rw [flat_append];exact List.mem_append_left _ hc)
    unfold Sorted at hrs;rw [hz] at hrs;exact (List.pairwise_append.1 hrs).2.2 c hcr x hx
  obtain ⟨i1, i2⟩ := ih hC' hD';obtain ⟨l1, l2, l3⟩ := leaf A A' h1;have hcnt : ∀ s, cnt C s = cnt A s + cnt (flat PB) s := by
   intro s;rw [cnt_perm h3, cnt_append, eB];unfold cnt;rw [syms_merge]
  have nest : ∀ s, 0 < cnt (flat PB) s -> s ∈ syms A := by
   intro s hs0;have hm : s ∈ syms (flat PB) := List.count_pos_iff.1 hs0;rw [<- syms_merge] at hm;obtain ⟨m, hm1, hm2⟩ := List.mem_flatMap.1 hm;obtain ⟨p, hp1, rfl⟩ := List.mem_map.1 hm1;have hpr : p ∈ pairs r := hPP.symm.subset (List.mem_append_left _ hp1);have hin : ∀ c ∈ [p.1, p.2], c ∈ r := by
    intro c hc;rw [hz];exact List.mem_append_left _ (List.mem_flatMap.2 ⟨p, hpr, hc⟩)
   have w1 := weighs hw hr p.1 (hin _ (by simp));have w2 := weighs hw hr p.2 (hin _ (by simp));have hsU : wt s < p.1.w + p.2.w /\ s ∈ U := by
    rcases List.mem_append.1 hm2 with h | h
    ·have := heavy hr p.1 (hin _ (by simp)) s h
     exact ⟨by omega, this.2⟩
    ·have := heavy hr p.2 (hin _ (by simp)) s h
     exact ⟨by omega, this.2⟩
   rcases List.mem_append.1 (l2.subset hsU.2) with h | h
   ·exact h
   ·obtain ⟨c, hc1, hc2⟩ := List.mem_flatMap.1 h
    obtain ⟨i, hi, rfl⟩ := List.mem_map.1 (h1.symm.subset (List.mem_append_right _ hc1));rw [List.mem_singleton.1 hc2] at hsU;have := hD (merge p) (h3.symm.subset (List.mem_append_right _ (by rw [eB]; exact List.mem_map_of_mem hp1))) _ (h4.symm.subset (List.mem_append_left _ hc1));change p.1.w + p.2.w <= wt i at this
    omega
  refine ⟨fun s => ?_, fun K hK => ?_⟩
  ·rw [hcnt, l1]
   have := i1 s;split <;> omega
  ·obtain ⟨K', rfl⟩ : ∃ K', K = K' + 1 := ⟨K - 1, by omega⟩
   have i3 := i2 K' (by omega);have e : (U.map fun s => wide (K' + 1) (cnt C s)).sum = ((syms A ++ syms A').map fun s => wide (K' + 1) (cnt C s)).sum := sum_perm (l2.map _);have e' : (U.map fun s => wide K' (cnt (flat PB) s)).sum = ((syms A ++ syms A').map fun s => wide K' (cnt (flat PB) s)).sum := sum_perm (l2.map _);have hnd := l2.nodup_iff.1 hn;rw [List.nodup_append] at hnd;have hno : ∀ s ∈ syms A', cnt (flat PB) s = 0 := by
    intro s hs;rcases Nat.eq_zero_or_pos (cnt (flat PB) s) with h | h
    ·exact h
    ·exact absurd rfl (hnd.2.2 s (nest s h) s hs)
   rw [e', List.map_append, List.sum_append, sum_map_zero (l := syms A') (fun s hs => by rw [hno s hs, wide_zero])] at i3;rw [e, List.map_append, List.sum_append, sum_map_zero (l := syms A') (fun s hs => by
    rw [hcnt, l1, if_neg (fun h => hnd.2.2 s h s hs rfl), hno s hs, wide_zero]), sum_map_add _ (fun s => wide K' (cnt (flat PB) s)) (2 ^ K') (syms A) (fun s hs => by
    rw [hcnt, l1, if_pos hs];exact wide_succ (by have := i1 s; omega)), l3]
   have hl : C.length = A.length + PB.length := by
    rw [h3.length_eq, List.length_append, eB, List.length_map]
   rw [flat_length] at i3;rw [Nat.add_zero] at i3;rw [hl, Nat.pow_succ, Nat.add_zero, Nat.add_mul, i3, Nat.add_mul];congr 1
   ·rw [Nat.mul_assoc]
   ·rw [Nat.mul_comm 2, Nat.mul_assoc, Nat.mul_comm 2]
end pm
end Go.Proofs.YthpckmcgbmfmcaaGreatDoor
