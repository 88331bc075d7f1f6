/- Texts of this claim, joined. -/
import Derived.Test.YthpckmcgbmfmcaaGreatDoorM31
import Derived.Test.YthpckmcgbmfmcaaGreatDoorM24
import Derived.Deep.RegionLaw
set_option maxRecDepth 100000
set_option maxHeartbeats 12800000
namespace Go.Proofs.YthpckmcgbmfmcaaGreatDoor
open Go.RowKit Go.Sort
structure If (b0 r x : Nat) (w w' : World) : Prop where
 below : Below b0 w w'
 others : ∀ j o, w.heap[j]? = some o -> j ≠ r -> j ≠ x -> (∀ c fz, o ≠ .cells c 5 fz) -> w'.heap[j]? = some o
theorem If.refl (b0 r x : Nat) (w : World) : If b0 r x w w := ⟨Below.refl _ _, fun _ _ h _ _ _ => h⟩
theorem If.trans {b0 r x : Nat} {a b c : World} (h : If b0 r x a b) (k : If b0 r x b c) : If b0 r x a c :=
 ⟨h.below.trans k.below, fun j o h0 h1 h2 h3 => k.others j o (h.others j o h0 h1 h2 h3) h1 h2 h3⟩
theorem If.of_below {b0 : Nat} (r x : Nat) {w w' : World} (hb : Below w.heap.size w w') (hs : b0 <= w.heap.size) : If b0 r x w w' :=
 ⟨hb.mono hs, fun _ _ hk _ _ _ => (hb.block _ (block_lt hk)).trans hk⟩
theorem If.of_grown {b0 r x : Nat} {w w' : World} {row : Option Nat} (hg : w.grownBy w' row) (hs : b0 <= w.heap.size) (h : ∀ k, row = some k -> b0 <= k /\ (k = r \/ k = x \/ ∃ c fz, w.heap[k]? = some (.cells c 5 fz))) : If b0 r x w w' := by
 refine ⟨(Below.refl _ _).grown hg hs (fun k hk => (h k hk).1), fun j o hj h1 h2 h3 => ?_⟩;refine (hg.block j (block_lt hj) (fun e => ?_)).trans hj;rcases (h j e.symm).2 with e | e | ⟨c, fz, hc⟩
 ·exact h1 e
 ·exact h2 e
 ·rw [hj] at hc
  exact h3 c fz (Option.some.inj hc)
structure Ir (b0 b1 : Nat) (w : World) (x r sb n c : Nat) (d : List Int) (P most : Nat) (out : List Int) (v : Value) : Prop where
 head : w.heap[x]? = some (.cells #[.pointer (some ⟨r, 0, none⟩), v, .int .i64 (most : Nat)] 121 (0, 0))
 rd : bt.Rr w r false d P sb n c
 row : w.ownsRow b1 5 1 v out.length (out.map (Value.int .u8))
 hx : b1 <= x
 hr : b0 <= r
 hb : b0 <= b1
 hsb : sb < b1
 hw : b1 <= w.heap.size
 fits : out.length <= most
 small : most <= 17179869184
section
variable {b0 b1 x r sb n c P most : Nat} {w : World} {d out : List Int} {v : Value}
theorem Ir.ne (h : Ir b0 b1 w x r sb n c d P most out v) : x ≠ r := ne_of_types h.head h.rd.head (by decide)
theorem Ir.below {w' : World} (h : Ir b0 b1 w x r sb n c d P most out v) (hb : Below w.heap.size w w') : Ir b0 b1 w' x r sb n c d P most out v /\ If b0 r x w w' :=
 ⟨⟨(hb.block _ (block_lt h.head)).trans h.head, h.rd.below hb, ownsRow_below h.row hb, h.hx, h.hr, h.hb, h.hsb, Nat.le_trans h.hw hb.size, h.fits, h.small⟩, If.of_below r x hb (Nat.le_trans h.hb h.hw)⟩
theorem Ir.read {w' : World} {P' : Nat} (h : Ir b0 b1 w x r sb n c d P most out v) (hr : bt.Rr w' r false d P' sb n c) (hg : w.grownBy w' (some r)) : Ir b0 b1 w' x r sb n c d P' most out v /\ If b0 r x w w' := by
 refine ⟨⟨grown_block hg h.head (fun e => h.ne (Option.some.inj e)), hr, World.ownsRow.kept h.row hg ?_, h.hx, h.hr, h.hb, h.hsb, Nat.le_trans h.hw hg.size, h.fits, h.small⟩, ?_⟩
 ·rcases row_apart h.row h.rd.head (by decide) with e | e
  ·exact .inl e
  ·exact .inr e
 ·exact If.of_grown hg (Nat.le_trans h.hb h.hw) (fun k e => by obtain rfl := Option.some.inj e; exact ⟨h.hr, .inl rfl⟩)
theorem Ir.push {w' : World} {v' : Value} {e : List Int} (h : Ir b0 b1 w x r sb n c d P most out v) (ha : AppOut b1 (out.length + e.length) (out ++ e) w v.ownBlock v' w') (hfit : out.length + e.length <= most) :
  w'.heap[x]? = some (.cells #[.pointer (some ⟨r, 0, none⟩), v, .int .i64 (most : Nat)] 121 (0, 0)) /\ Ir b0 b1 (w'.setCell ⟨x, 1, none⟩ v') x r sb n c d P most (out ++ e) v' /\ If b0 r x w (w'.setCell ⟨x, 1, none⟩ v') := by
 obtain ⟨hrow, hg⟩ := ha;have hown : ∀ k, v.ownBlock = some k -> b1 <= k /\ ∃ cc, w.heap[k]? = some (.cells cc 5 (0, 0)) := by
  intro k hk;rcases h.row.2 with ⟨rfl, _⟩ | ⟨g', cap, cur, rfl, h1, h2, _⟩
  ·cases hk
  ·cases hk
   exact ⟨h1, cur, h2⟩
 have nx : some x ≠ v.ownBlock := by
  intro e;obtain ⟨_, cc, hc⟩ := hown x e.symm;exact ne_of_types h.head hc (by decide) rfl
 have nr : some r ≠ v.ownBlock := by
  intro e;obtain ⟨_, cc, hc⟩ := hown r e.symm;exact ne_of_types h.rd.head hc (by decide) rfl
 have nsb : some sb ≠ v.ownBlock := by
  intro e;have := (hown sb e.symm).1;have := h.hsb;omega
 have hx' := grown_block hg h.head nx;have hg2 := grownBy_setCell3 w' x 1 v';have nsx : ∀ {j : Nat} {cc : Array Value} {t : TypeId}, w'.heap[j]? = some (.cells cc t (0, 0)) -> t ≠ 121 -> some j ≠ some x := by
  intro j cc t hj ht e;exact ne_of_types hj hx' ht (Option.some.inj e)
 have hr' := grown_block hg h.rd.head nr;refine ⟨hx', ⟨?_, ⟨grown_block hg2 hr' (nsx hr' (by decide)), (h.rd.data.kept hg nsb).kept hg2 ?_, h.rd.apart, h.rd.small⟩, ?_, h.hx, h.hr, h.hb, h.hsb, Nat.le_trans h.hw (Nat.le_trans hg.size hg2.size), by rw [List.length_append]; exact hfit, h.small⟩, ?_⟩
 ·rw [heap_setCell_same _ _ _ _ _ _ hx']
  rfl
 ·intro e
  have h1 := Option.some.inj e;have := h.hx;have := h.hsb;omega
 ·rw [List.length_append]
  refine ownsRow_setCell_other hrow (a := ⟨x, 1, none⟩) ?_ _;rcases row_apart hrow hx' (by decide) with e | e
  ·rw [e]; simp
  ·exact e
 ·exact (If.of_grown hg (Nat.le_trans h.hb h.hw) (fun k e => ⟨Nat.le_trans h.hb (hown k e).1, .inr (.inr ⟨_, _, (hown k e).2.choose_spec⟩)⟩)).trans (If.of_grown hg2 (Nat.le_trans (Nat.le_trans h.hb h.hw) hg.size) (fun k e => by obtain rfl := Option.some.inj e; exact ⟨Nat.le_trans h.hb h.hx, .inr (.inl rfl)⟩))
end
theorem must_ok (w : World) : Calls Tryz.prog 109 #[.int .i64 0] w fun e w' => e = .returned (.tuple #[]) /\ w = w' := by
 go_enter Tryz.func109, Tryz.ntmps109
 go_wp2_with fail
 exact bodyPost_end (results_none rfl _ _ _) rfl ⟨rfl, rfl⟩
section
variable {b0 b1 x r sb n c P most : Nat} {w : World} {L : List Bool} {out : List Int} {v : Value}
def Ir.TakePost (b0 b1 x r sb n c : Nat) (d : List Int) (P most : Nat) (out : List Int) (v : Value) (a : Nat) (w : World) (e : Ending) (w' : World) : Prop :=
 e = .returned (.int .i64 (a : Nat)) /\ Ir b0 b1 w' x r sb n c d P most out v /\ If b0 r x w w'
theorem itake_any (h : Ir b0 b1 w x r sb n c (bt.bytes false L) P most out v) (hn : n = (L.length + 7) / 8) (m : Nat) (hm : m <= 32) (hk : P + m <= 8 * n) :
  Calls Tryz.prog 61 #[.pointer (some ⟨x, 0, none⟩), .int .i64 m] w (Ir.TakePost b0 b1 x r sb n c (bt.bytes false L) (P + m) most out v (bt.valTo false L P m) w) := by
 have CT := hd_ (take_any h.rd hn m hm hk);have c0 := (cr_ w 0 h.head (Value.pointer (some ⟨r, 0, none⟩)) rfl);have HI := hd_ h;have KM := hd_ must_ok;have hlt := bt.valTo_lt false L P m;have hp : 2 ^ m <= 2 ^ 32 := Nat.pow_le_pow_right (by decide) hm;have he : bt.valTo false L P m < 4294967296 := Nat.lt_of_lt_of_le hlt hp;obtain ⟨a, ha⟩ : ∃ a, bt.valTo false L P m = a := ⟨_, rfl⟩;unfold bt.TakePost at CT;rw [ha] at CT he;rw [ha];have e1 : IntKind.i64.wrap (a : Int) = (a : Int) := i64i (by omega);clear h hlt hp ha;go_enter Tryz.func61, Tryz.ntmps61
 go_wp2_with fail
 refine CT.out.mono ?_;rintro e w2 ⟨rfl, h2, h3⟩;have H2 := hd_ (HI.out.read h2 h3);clear h2 h3 CT c0;go_wp2_with fail
 refine (KM.out _).mono ?_;rintro e w3 ⟨rfl, rfl⟩;go_wp2_with fail
 go_ret
 exact ⟨rfl, H2.out⟩
theorem inext_any (h : Ir b0 b1 w x r sb n c (bt.bytes false L) P most out v) (hn : n = (L.length + 7) / 8) {base g : Nat} {ls : List Nat} {tv : Value} (hd : Dec base w g ls tv) (hok : pf.Ok ls) (s : Nat) (hs : s < ls.length) (hs1 : 1 <= ls.getD s 0)
  (hP : P + ls.getD s 0 <= L.length) (hb : ∀ i, i < ls.getD s 0 -> L.getD (P + i) false = (pf.code ls s).testBit (ls.getD s 0 - 1 - i)) (hlen : ls.length <= 4096) :
  Calls Tryz.prog 113 #[.pointer (some ⟨x, 0, none⟩), .pointer (some ⟨g, 0, none⟩)] w (Ir.TakePost b0 b1 x r sb n c (bt.bytes false L) (P + ls.getD s 0) most out v s w) := by
 have CT := hd_ (next_any base w g ls tv hd hok L P r sb n c h.rd hn s hs hs1 hP hb hlen);have c0 := (cr_ w 0 h.head (Value.pointer (some ⟨r, 0, none⟩)) rfl);have HI := hd_ h;have KM := hd_ must_ok;clear h hd hok hs1 hP hb hn hs hlen;go_enter Tryz.func113, Tryz.ntmps113
 go_wp2_with fail
 refine CT.out.mono ?_;rintro e w2 ⟨rfl, h2, h3⟩;have H2 := hd_ (HI.out.read h2 h3);clear h2 h3 CT c0;go_wp2_with fail
 refine (KM.out _).mono ?_;rintro e w3 ⟨rfl, rfl⟩;go_wp2_with fail
 go_ret
 exact ⟨rfl, H2.out⟩
theorem iroom_any {d : List Int} (h : Ir b0 b1 w x r sb n c d P most out v) (m : Nat) (hm : out.length + m <= most) :
  Calls Tryz.prog 111 #[.pointer (some ⟨x, 0, none⟩), .int .i64 m] w fun e w' => e = .returned (.tuple #[]) /\ Ir b0 b1 w' x r sb n c d P most out v /\ If b0 r x w w' := by
 have c2 := (cr_ w 2 h.head (Value.int .i64 (most : Nat)) rfl);have HI := hd_ h;obtain ⟨a, cc, rfl, h1, h2, _⟩ := own_slice' h.row;have c1 := (cr_ w 1 h.head (Value.slice a out.length cc) rfl);have hs := h.small;obtain ⟨q, hq⟩ : ∃ q, out.length = q := ⟨_, rfl⟩;rw [hq] at c1 hm;obtain ⟨z, hz⟩ : ∃ z, most - q = z := ⟨_, rfl⟩;have e1 : IntKind.i64.wrap ((most : Int) - (q : Int)) = (z : Int) := i64o (by omega) (by omega);have hmz : ¬ (z : Int) < (m : Int) := by omega
 have hmz2 : ¬ z < m := by omega
 clear h h1 h2 hq hz;go_enter Tryz.func111, Tryz.ntmps111
 go_upto_region 0 with (fail)
 go_quiet (fail)
 have hb := below_drewN (Below.refl w.heap.size w) nq;have H2 := hd_ (HI.out.below hb);clear hb c1 c2;generalize w.drewN nq = w2 at *;go_wp2_with fail
 exact bodyPost_end (results_none rfl _ _ _) rfl ⟨rfl, H2.out⟩
def Ir.StPost (b0 b1 x r sb n c : Nat) (d : List Int) (P most : Nat) (out : List Int) (w : World) (e : Ending) (w' : World) : Prop :=
 e = .returned (.tuple #[]) /\ ∃ v', Ir b0 b1 w' x r sb n c d P most out v' /\ If b0 r x w w'
theorem xor_i64 (m : Nat) (h : m <= 65535) : bits .xor .i64 (m : Int) 65535 = ((m ^^^ 65535 : Nat) : Int) := by
 have e : ∀ n : Nat, n <= 65535 -> (BitVec.ofInt 64 (n : Int)).toNat = n := fun n hn => by
  rw [BitVec.toNat_ofInt];omega
 have hx : m ^^^ 65535 < 65536 := Nat.xor_lt_two_pow (n := 16) (by omega) (by decide);show IntKind.i64.wrap ((BitVec.ofInt 64 (m : Int) ^^^ BitVec.ofInt 64 ((65535 : Nat) : Int)).toNat : Int) = _;rw [BitVec.toNat_xor, e m h, e _ (Nat.le_refl _), IntKind.wrap_i64];omega
theorem istored_any (h : Ir b0 b1 w x r sb n c (bt.bytes false L) P most out v) (hn : n = (L.length + 7) / 8) (hP : P <= 549755813888) (q m : Nat) (hq : 8 * ((P + 7) / 8) = q) (h1 : bt.valTo false L q 16 = m) (h2 : bt.valTo false L (q + 16) 16 = m ^^^ 65535) (hm : m <= 65535) (hbn : q + 32 + 8 * m <= 8 * n) (hfit : out.length + m <= most) :
  Calls Tryz.prog 62 #[.pointer (some ⟨x, 0, none⟩)] w (Ir.StPost b0 b1 x r sb n c (bt.bytes false L) (q + 32 + 8 * m) most (out ++ ((bt.bytes false L).drop ((q + 32) / 8)).take m) w) := by
 have CA := hd_ (ralign_any h.rd (by omega));rw [hq] at CA;have c0 := (cr_ w 0 h.head (Value.pointer (some ⟨r, 0, none⟩)) rfl);have HI := hd_ h;have HN := hd_ hn;have H1 := hd_ h1;have H2 := hd_ h2;have HSM := hd_ h.small;have KM := hd_ must_ok;have hq8 : (q + 32 + 7) / 8 = (q + 32) / 8 := by omega
 have hq9 : 8 * ((q + 32) / 8 + m) = q + 32 + 8 * m := by omega
 have hqb : q <= 549755813900 := by omega
 have e1 : bits .xor .i64 (m : Int) 65535 = ((m ^^^ 65535 : Nat) : Int) := xor_i64 m hm;have HQ8 := hd_ hq8;have HQ9 := hd_ hq9;have hqn : (q + 32) / 8 + m <= n := by omega
 obtain ⟨xm, hxm⟩ : ∃ xm, m ^^^ 65535 = xm := ⟨_, rfl⟩;rw [hxm] at e1 H2;clear h hn h1 h2 hq8 hq9 hq hxm;go_enter Tryz.func62, Tryz.ntmps62
 go_wp2_with fail
 refine CA.out.mono ?_;rintro e w2 ⟨rfl, hr2, hg2⟩;have HJ2 := hd_ (HI.out.read hr2 hg2);clear hr2 hg2 CA c0;have CT := hd_ (itake_any HJ2.out.1 HN.out 16 (by decide) (by omega));rw [H1.out] at CT;go_wp2_with fail
 refine CT.out.mono ?_;rintro e w3 ⟨rfl, hi3, hf3⟩;have HJ3 := hd_ hi3;have HF3 := hd_ (HJ2.out.2.trans hf3);clear hi3 hf3 CT HJ2;have CT := hd_ (itake_any HJ3.out HN.out 16 (by decide) (by omega));rw [H2.out] at CT;go_wp2_with fail
 refine CT.out.mono ?_;rintro e w4 ⟨rfl, hi4, hf4⟩;have HJ4 := hd_ hi4;have HF4 := hd_ (HF3.out.trans hf4);clear hi4 hf4 CT HJ3 HF3;have CR := hd_ (iroom_any HJ4.out m hfit);go_wp2_with fail
 refine CR.out.mono ?_;rintro e w5 ⟨rfl, hi5, hf5⟩;have HJ5 := hd_ hi5;have HF5 := hd_ (HF4.out.trans hf5);clear hi5 hf5 CR HJ4 HF4;have c0 := (cr_ w5 0 HJ5.out.head (Value.pointer (some ⟨r, 0, none⟩)) rfl);have CB := rbytes_any HJ5.out.rd m (by rw [Nat.add_assoc q, HQ8.out]; exact hqn) (by omega);rw [Nat.add_assoc q, HQ8.out, HQ9.out] at CB;have CB := hd_ CB;go_wp2_with fail
 refine CB.out.mono ?_;rintro e w6 ⟨vb, rfl, ⟨gb, cb, rfl, hgb, hfb⟩, hr6, hg6⟩;have HJ6 := hd_ (HJ5.out.read hr6 hg6);have HSL := hd_ (Fresh.sl hfb (wf_of_bytes (fun y hy => bt.bytes_range false L y (List.mem_of_mem_drop (List.mem_of_mem_take hy)))));have HF6 := hd_ (HF5.out.trans HJ6.out.2);clear hgb hfb hr6 hg6 CB c0 HJ5 HF5;go_wp2_with fail
 refine (KM.out _).mono ?_;rintro e w7 ⟨rfl, rfl⟩;obtain ⟨t, ht⟩ : ∃ t, ((bt.bytes false L).drop ((q + 32) / 8)).take m = t := ⟨_, rfl⟩;have HTL : Hid (t.length = m) := hd_ (by rw [<- ht]; exact HSL.out.len);rw [ht] at HSL;have HT := hd_ ht;clear ht;obtain ⟨ao, co, hvo, _, _, _⟩ := own_slice' HJ6.out.1.row;subst hvo;have HBD : Hid (out.length + m <= 140737488355328) := hd_ (by have := HSM.out; omega);have c1 := (cr_ w6 1 HJ6.out.1.head (Value.slice ao out.length co) rfl);go_wp2_with (at_builtin; go_must (refine wpList_of_append rfl (.tmp 37) (.tmp 38) 22 22 rfl (run_append_sl w6 _ b1 _ _ out HJ6.out.1.row (some ⟨gb, 0, none⟩) m cb t HSL.out HBD.out HJ6.out.1.hw) ?_; rintro v' w' ha; rw [<- HTL.out] at ha; have HPU := hd_ (HJ6.out.1.push ha (by rw [HTL.out]; exact hfit)); have d1 := (cr_ w' 1 HPU.out.1 (Value.slice ao out.length co) rfl); have f1 := frozen_of_row w' _ 1 _ _ HPU.out.1; obtain ⟨a2, c2, rfl, _, _, _⟩ := own_slice' ha.1; clear ha))
 rw [HT.out];exact bodyPost_end (results_none rfl _ _ _) rfl ⟨rfl, _, HPU.out.2.1, HF6.out.trans HPU.out.2.2⟩
end
theorem groups_any (w : World) (k size frm : Nat) (hs : 0 < size) (hs2 : size <= 16) (hk : k <= 64) (hf : frm <= 16) (hm : k / size <= 17) :
  Calls Tryz.prog 114 #[.int .i64 k, .int .i64 size, .int .i64 frm] w fun e w' => e = .returned (.tuple #[.int .i64 (df.grB k size frm : Nat), .int .i64 (df.grM k size : Nat)]) /\ w = w' := by
 have e1 : IntKind.i64.wrap (2 * (size : Int)) = ((2 * size : Nat) : Int) := i64o (by omega) (by omega);by_cases hlt : k < 2 * size
 ·have h1 : df.grB k size frm = frm + k := if_pos hlt
  have h2 : df.grM k size = 0 := if_pos hlt;rw [h1, h2];have e2 : IntKind.i64.wrap ((frm : Int) + (k : Int)) = ((frm + k : Nat) : Int) := i64o (by omega) (by omega);obtain ⟨z, hz⟩ : ∃ z, 2 * size = z := ⟨_, rfl⟩;rw [hz] at e1 hlt;obtain ⟨y, hy⟩ : ∃ y, frm + k = y := ⟨_, rfl⟩;rw [hy] at e2 ⊢;clear hz hy h1 h2;go_enter Tryz.func114, Tryz.ntmps114
  go_wp2_with fail
  go_ret2
  exact ⟨rfl, rfl⟩
 ·have h1 : df.grB k size frm = frm + (size + k % size) * 2 ^ (k / size - 1) := if_neg hlt
  have h2 : df.grM k size = k / size - 1 := if_neg hlt;rw [h1, h2];have hq2 : 2 <= k / size := (Nat.le_div_iff_mul_le hs).2 (by omega);have ht1 : Int.tdiv (k : Int) (size : Int) = ((k / size : Nat) : Int) := by rw [Int.tdiv_eq_ediv_of_nonneg (by omega)]; rfl
  have ht2 : Int.tmod (k : Int) (size : Int) = ((k % size : Nat) : Int) := by rw [Int.tmod_eq_emod_of_nonneg (by omega)]; rfl
  have hml := Nat.mod_lt k hs;obtain ⟨q, hq⟩ : ∃ q, k / size = q := ⟨_, rfl⟩;obtain ⟨m, hmm⟩ : ∃ m, k % size = m := ⟨_, rfl⟩;rw [hq] at ht1 hq2 hm ⊢;rw [hmm] at ht2 hml ⊢;have e3 : IntKind.i64.wrap (q : Int) = (q : Int) := i64i (by omega);have e4 : IntKind.i64.wrap ((q : Int) - 1) = ((q - 1 : Nat) : Int) := i64o (by omega) (by omega);have e5 : IntKind.i64.wrap ((size : Int) + (m : Int)) = ((size + m : Nat) : Int) := i64o (by omega) (by omega);have e5b : IntKind.i64.wrap (m : Int) = (m : Int) := i64i (by omega);obtain ⟨q1, hq1⟩ : ∃ q1, q - 1 = q1 := ⟨_, rfl⟩;obtain ⟨sm, hsm⟩ : ∃ s, size + m = s := ⟨_, rfl⟩;rw [hq1] at e4 ⊢;rw [hsm] at e5 ⊢;have hpq : 2 ^ q1 <= 2 ^ 16 := Nat.pow_le_pow_right (by decide) (by omega);have hmul : sm * 2 ^ q1 <= 32 * 2 ^ 16 := Nat.mul_le_mul (by omega) hpq;have e6 : (sm : Int) * 2 ^ q1 = ((sm * 2 ^ q1 : Nat) : Int) := by simp
  obtain ⟨y, hy⟩ : ∃ y, sm * 2 ^ q1 = y := ⟨_, rfl⟩;rw [hy] at e6 hmul ⊢;have e7 : IntKind.i64.wrap (y : Int) = (y : Int) := i64i (by omega);have e8 : IntKind.i64.wrap ((frm : Int) + (y : Int)) = ((frm + y : Nat) : Int) := i64o (by omega) (by omega);obtain ⟨u, hu⟩ : ∃ u, frm + y = u := ⟨_, rfl⟩;rw [hu] at e8 ⊢;obtain ⟨z, hz⟩ : ∃ z, 2 * size = z := ⟨_, rfl⟩;rw [hz] at e1 hlt;have hmin : min q1 64 = q1 := Nat.min_eq_left (by omega);have hsz : ¬ (size : Int) = 0 := by omega
  have hsz2 : ¬ size = 0 := by omega
  have hlt2 : z <= k := by omega
  clear hq hmm hq1 hsm hy hu hz h1 h2 hq2;go_enter Tryz.func114, Tryz.ntmps114
  go_wp2_with fail
  go_ret2
  exact ⟨rfl, rfl⟩
namespace df
theorem sb_at {L A R : List Bool} {ls : List Nat} {s : Nat} (h : L = A ++ (sb ls s ++ R)) : A.length + ls.getD s 0 <= L.length /\ ∀ i, i < ls.getD s 0 -> L.getD (A.length + i) false = (pf.code ls s).testBit (ls.getD s 0 - 1 - i) := by
 subst h;have hl := sb_length ls s;refine ⟨by rw [List.length_append, List.length_append, hl]; omega, fun i hi => ?_⟩;rw [List.getD_eq_getElem?_getD, List.getElem?_append_right (by omega), Nat.add_sub_cancel_left, List.getElem?_append_left (by omega)];unfold sb bt.bitsOf;rw [List.getElem?_map, List.getElem?_range hi];rfl
theorem take_at {L A R : List Bool} {v k : Nat} (h : L = A ++ (bt.bitsOf false v k ++ R)) (hv : v < 2 ^ k) : A.length + k <= L.length /\ bt.valTo false L A.length k = v := by
 subst h;refine ⟨by rw [List.length_append, List.length_append, bt.bitsOf_length]; omega, ?_⟩;rw [<- List.append_assoc];exact bt.val_bits false A R v k hv
theorem len_back {m : Nat} (h3 : 3 <= m) (h : m <= 258) (hne : m ≠ 258) : lenS m <= 284 /\ 257 <= lenS m /\ grM (lenS m - 257) 4 = lenM m /\ grB (lenS m - 257) 4 3 + lenX m = m := by
 have hr := lenS_range h;have e1 : lenS m = 257 + symS (m - 3) 4 := if_neg hne;have e2 : lenX m = symX (m - 3) 4 := if_neg hne;have e3 : lenM m = symM (m - 3) 4 := if_neg hne;obtain ⟨g1, g2⟩ := gr_sym (m - 3) (size := 4) 3 (by decide);refine ⟨hr.2.2.1 hne, hr.1, ?_, ?_⟩
 ·rw [e1, e3, Nat.add_sub_cancel_left, g1]
 ·rw [e1, e2, Nat.add_sub_cancel_left, g2]
  omega
theorem dis_back {k : Nat} (h1 : 1 <= k) (_h : k <= 32768) : grM (disS k) 2 = disM k /\ grB (disS k) 2 1 + disX k = k := by
 obtain ⟨g1, g2⟩ := gr_sym (k - 1) (size := 2) 1 (by decide);refine ⟨g1, ?_⟩;unfold disS disX;rw [g2];omega
end df
theorem Dec.iff {base : Nat} {w w' : World} {g : Nat} {ls : List Nat} {tv : Value} {b0 b1 x r sb n c P most : Nat} {d out : List Int} {v : Value} (h : Dec base w g ls tv) (hi : Ir b0 b1 w x r sb n c d P most out v) (hf : If b0 r x w w') : Dec base w' g ls tv := by
 have keep : ∀ {j : Nat} {cc : Array Value} {t : TypeId}, w.heap[j]? = some (.cells cc t (0, 0)) -> t ≠ 195 -> t ≠ 121 -> t ≠ 5 -> w'.heap[j]? = some (.cells cc t (0, 0)) := by
  intro j cc t hj h1 h2 h3;refine hf.others j _ hj (fun e => ?_) (fun e => ?_) (fun c' fz e => ?_)
  ·exact ne_of_types hj hi.rd.head h1 e
  ·exact ne_of_types hj hi.head h2 e
  ·injection e with _ e _
   exact h3 e
 refine ⟨keep h.head (by decide) (by decide) (by decide), ?_, h.lies⟩;have ht := h.tab;unfold OwnN World.ownsRow at ht ⊢;refine ⟨ht.1, ?_⟩;rcases ht.2 with h1 | ⟨g', cap, cur, e, a1, a2, a3⟩
 ·exact .inl h1
 ·exact .inr ⟨g', cap, cur, e, a1, keep a2 (by decide) (by decide) (by decide), a3⟩
def Ir.SyPost (b0 b1 x r sb n c : Nat) (d : List Int) (P most : Nat) (out : List Int) (w : World) (e : Ending) (w' : World) : Prop :=
 e = .returned (.tuple #[]) /\ ∃ v', Ir b0 b1 w' x r sb n c d P most out v' /\ If b0 r x w w'
theorem symbols_any {b0 b1 x r sb n c P most : Nat} {w : World} {L : List Bool} {v : Value} {l : List Int} {i0 j : Nat} (h : Ir b0 b1 w x r sb n c (bt.bytes false L) P most (l.take i0) v) (hn : n = (L.length + 7) / 8)
  {ba g1 bb g2 : Nat} {Lt Dt : List Nat} {t1 t2 : Value} (h1 : Dec ba w g1 Lt t1) (h2 : Dec bb w g2 Dt t2) (ok1 : pf.Ok Lt) (ok2 : pf.Ok Dt) (n1 : 286 <= Lt.length) (n2 : Lt.length <= 4096) (m1 : 30 <= Dt.length) (m2 : Dt.length <= 4096)
  (ps : List df.Piece) (hfrom : df.From l i0 ps j) (hcov : ∀ p ∈ ps, df.Covers Lt Dt p) (hend : 1 <= Lt.getD 256 0) (A B : List Bool) (hL : L = A ++ (df.bodyBits Lt Dt ps ++ B)) (hA : A.length = P) (hby : sm.Bytes l) (hl : l.length <= most) :
  Calls Tryz.prog 63 #[.pointer (some ⟨x, 0, none⟩), .pointer (some ⟨g1, 0, none⟩), .pointer (some ⟨g2, 0, none⟩)] w (Ir.SyPost b0 b1 x r sb n c (bt.bytes false L) (P + (df.bodyBits Lt Dt ps).length) most (l.take j) w) := by
 have HI := hd_ h;have HD1 := hd_ h1;have HD2 := hd_ h2;have HOK := hd_ (And.intro ok1 ok2);have HFR := hd_ hfrom;have HCV := hd_ hcov;have HEN := hd_ hend;have HLL := hd_ hL;have HAA := hd_ hA;have HBY := hd_ hby;have HN := hd_ hn;have HM := hd_ hl;have HSM := hd_ h.small;clear h h1 h2 ok1 ok2 hfrom hcov hend hL hA hby hn hl;go_enter Tryz.func63, Tryz.ntmps63
 go_wp2_with fail
 go_loopg [] (ps.length + 1) (fun gk wr => ∃ (qs : List df.Piece) (i P' : Nat) (A' : List Bool) (v' : Value), gk = qs.length + 1 /\ df.From l i qs j /\ (∀ p ∈ qs, df.Covers Lt Dt p) /\ L = A' ++ (df.bodyBits Lt Dt qs ++ B) /\ A'.length = P' /\ P' + (df.bodyBits Lt Dt qs).length = P + (df.bodyBits Lt Dt ps).length /\ Ir b0 b1 wr x r sb n c (bt.bytes false L) P' most (l.take i) v' /\ If b0 r x w wr)
 case atStart => exact ⟨ps, i0, P, A, v, rfl, HFR.out, HCV.out, HLL.out, HAA.out, rfl, HI.out, If.refl _ _ _ _⟩
 case round =>
  obtain ⟨qs, i, P', A', v', hgk, hfrom, hcov, hL, hA, hP, hir, hif⟩ := hrel;have Hg := hd_ hgk;have HJ := hd_ hir;have HF := hd_ hif;have HD1r := hd_ (HD1.out.iff HI.out hif);have HD2r := hd_ (HD2.out.iff HI.out hif);have HPP := hd_ hP;clear hgk hir hif hP;cases hfrom with
  | nil =>
   have hb : df.bodyBits Lt Dt [] = df.sb Lt 256 := rfl;rw [hb] at hL HPP;obtain ⟨a1, a2⟩ := df.sb_at hL;rw [hA] at a1 a2;have CN := hd_ (inext_any HJ.out HN.out HD1r.out HOK.out.1 256 (by omega) HEN.out a1 a2 n2);clear a1 a2 hL hb;rw [df.sb_length] at HPP;rw [HPP.out] at CN;go_wp2_with fail
   refine CN.out.mono ?_;rintro e w2 ⟨rfl, hi2, hf2⟩;have HJ2 := hd_ hi2;have HF2 := hd_ (HF.out.trans hf2);clear hi2 hf2 CN;go_wp2_with fail
   exact bodyPost_end (results_none rfl _ _ _) rfl ⟨rfl, _, HJ2.out, HF2.out⟩
  | lit hil hfrom =>
   rename_i qs'
   have hcv := hcov _ (List.mem_cons_self ..);have hcov' : ∀ p ∈ qs', df.Covers Lt Dt p := fun p hp => hcov p (List.mem_cons_of_mem _ hp)
   have hyb := byte_getD HBY.out i;have htk := df.take_more hil;have HY := hd_ (show ((l.getD i 0).toNat : Int) = l.getD i 0 by omega);have hb : df.bodyBits Lt Dt (⟨0, 0, l.getD i 0⟩ :: qs') = df.sb Lt (l.getD i 0).toNat ++ df.bodyBits Lt Dt qs' := by
    unfold df.bodyBits;rw [List.flatMap_cons, List.append_assoc];rfl
   have hcv2 : 1 <= Lt.getD (l.getD i 0).toNat 0 := hcv;obtain ⟨s, hs⟩ : ∃ s, (l.getD i 0).toNat = s := ⟨_, rfl⟩;have hs2 : s < 256 := (by omega);rw [hs] at hb hcv2 HY;rw [hb] at hL HPP;rw [List.append_assoc] at hL;have HLq := hd_ hL;obtain ⟨a1, a2⟩ := df.sb_at hL;rw [hA] at a1 a2;have CN := hd_ (inext_any HJ.out HN.out HD1r.out HOK.out.1 s (by omega) hcv2 a1 a2 n2);have HFr2 := hd_ hfrom;have HCV2 := hd_ hcov';have HTK := hd_ htk;have HAq := hd_ hA;rw [List.length_append, df.sb_length] at HPP;clear a1 a2 hL hb hcv hcv2 hcov hcov' hfrom htk hs hyb hA;go_wp2_with fail
   refine CN.out.mono ?_;rintro e w2 ⟨rfl, hi2, hf2⟩;have HJ2 := hd_ hi2;have HF2 := hd_ (HF.out.trans hf2);clear hi2 hf2 CN HJ HF;have htl : (l.take i).length = i := (by rw [List.length_take]; omega);obtain ⟨o, ho⟩ : ∃ o, l.take i = o := ⟨_, rfl⟩;rw [ho] at HJ2 htl HTK;have HTL := hd_ htl;have CR := hd_ (iroom_any HJ2.out 1 (by rw [htl]; have := HM.out; omega));clear htl ho;go_wp2_with fail
   refine CR.out.mono ?_;rintro e w3 ⟨rfl, hi3, hf3⟩;have HJ3 := hd_ hi3;have HF3 := hd_ (HF2.out.trans hf3);clear hi3 hf3 CR HJ2 HF2;obtain ⟨ao, co, hvo, _, _, _⟩ := own_slice' HJ3.out.row;subst hvo;have c1 := (cr_ w3 1 HJ3.out.head (Value.slice ao o.length co) rfl);have e8 : IntKind.u8.wrap (s : Int) = (s : Int) := (by rw [IntKind.wrap_u8]; omega);have hb4 := (Below.refl w3.heap.size w3).alloc (Nat.le_refl _) (Obj.cells #[.int .u8 (s : Int)] 5);have HJ4 := hd_ (HJ3.out.below hb4);have HS4 := hd_ (sl_bytes w3 [(s : Int)] 5 (0, 0) w3.heap.size rfl (show 1 <= maxLen by decide) (by intro z hz; rw [List.mem_singleton.1 hz]; exact wf_of_bytes (l := [(s : Int)]) (by intro q hq; rw [List.mem_singleton.1 hq]; omega) _ (List.mem_singleton.2 rfl)));have HBD : Hid (o.length + 1 <= 140737488355328) := hd_ (by have := HSM.out; have := HTL.out; have := HM.out; omega);have HFT : Hid (o.length + 1 <= most) := hd_ (by have := HTL.out; have := HM.out; omega);clear hb4;go_wp2_with (at_builtin; go_must (refine wpList_of_append rfl (.tmp 26) (.tmp 29) 22 22 rfl (run_append_sl _ _ b1 _ _ o HJ4.out.1.row (some ⟨w3.heap.size, 0, none⟩) 1 1 [(s : Int)] HS4.out HBD.out HJ4.out.1.hw) ?_; rintro v' w' ha; have HPU := hd_ (HJ4.out.1.push (e := [(s : Int)]) ha HFT.out); have d1 := (cr_ w' 1 HPU.out.1 (Value.slice ao o.length co) rfl); have f1 := frozen_of_row w' _ 1 _ _ HPU.out.1; obtain ⟨a2, c2, rfl, _, _, _⟩ := own_slice' ha.1; clear ha))
   go_roundg (qs'.length + 1)
   case measure => have h0 := Hg.out; rw [List.length_cons] at h0; omega
   case rel =>
    refine ⟨qs', i + 1, P' + Lt.getD s 0, A' ++ df.sb Lt s, .slice a2 (o.length + 1) c2, rfl, HFr2.out, HCV2.out, by rw [List.append_assoc]; exact HLq.out, by rw [List.length_append, df.sb_length, HAq.out], by have := HPP.out; omega, ?_, (HF3.out.trans HJ4.out.2).trans HPU.out.2.2⟩;rw [HTK.out, <- HY.out];exact HPU.out.2.1
  | mat q1 q2 q3 q4 q5 q6 q7 hfrom =>
   rename_i m k qs'
   have hcv := hcov _ (List.mem_cons_self ..);have hcov' : ∀ p ∈ qs', df.Covers Lt Dt p := fun p hp => hcov p (List.mem_cons_of_mem _ hp)
   have hm0 : m ≠ 0 := (by omega);unfold df.Covers at hcv;rw [if_neg hm0] at hcv;have hb : df.bodyBits Lt Dt (⟨m, k, 0⟩ :: qs') = df.sb Lt (df.lenS m) ++ (bt.bitsOf false (df.lenX m) (df.lenM m) ++ (df.sb Dt (df.disS k) ++ (bt.bitsOf false (df.disX k) (df.disM k) ++ df.bodyBits Lt Dt qs'))) := by
    unfold df.bodyBits;rw [List.flatMap_cons];unfold df.pieceBits;rw [if_neg hm0];simp only [List.append_assoc]
   have hsr := df.lenS_range q2;have hxl := df.lenX_lt m;have hdr := df.disS_range q5 q3;have hdl := df.disX_lt k;have hdb := df.dis_back q3 q5;obtain ⟨nb, hnb, hlb⟩ : ∃ nb, nb + df.lenX m = m /\ ((m = 258 /\ df.lenS m = 285 /\ df.lenM m = 0 /\ nb = 258) \/ (df.lenS m <= 284 /\ df.grM (df.lenS m - 257) 4 = df.lenM m /\ df.grB (df.lenS m - 257) 4 3 = nb)) := by
    by_cases hm : m = 258
    ·subst hm
     exact ⟨258, rfl, .inl ⟨rfl, rfl, rfl, rfl⟩⟩
    ·obtain ⟨a1, a2, a3, a4⟩ := df.len_back q1 q2 hm
     exact ⟨_, a4, .inr ⟨a1, a3, rfl⟩⟩
   have HQ7 := hd_ q7;obtain ⟨sy, hsy⟩ : ∃ z, df.lenS m = z := ⟨_, rfl⟩;obtain ⟨lx, hlx⟩ : ∃ z, df.lenX m = z := ⟨_, rfl⟩;obtain ⟨lm, hlm⟩ : ∃ z, df.lenM m = z := ⟨_, rfl⟩;obtain ⟨ds, hds⟩ : ∃ z, df.disS k = z := ⟨_, rfl⟩;obtain ⟨dx, hdx⟩ : ∃ z, df.disX k = z := ⟨_, rfl⟩;obtain ⟨dm, hdm⟩ : ∃ z, df.disM k = z := ⟨_, rfl⟩;rw [hsy, hds] at hcv;rw [hsy, hlx, hlm, hds, hdx, hdm] at hb;rw [hsy, hlm] at hsr;rw [hlx, hlm] at hxl;rw [hds, hdm] at hdr;rw [hdx, hdm] at hdl;rw [hds, hdm, hdx] at hdb;rw [hsy, hlm] at hlb;rw [hlx] at hnb;rw [hb] at hL HPP;simp only [List.append_assoc] at hL;have HA1 := hd_ (show L = (A' ++ df.sb Lt sy) ++ (bt.bitsOf false lx lm ++ (df.sb Dt ds ++ (bt.bitsOf false dx dm ++ (df.bodyBits Lt Dt qs' ++ B)))) by rw [hL]; simp only [List.append_assoc]);have HA2 := hd_ (show L = (A' ++ df.sb Lt sy ++ bt.bitsOf false lx lm) ++ (df.sb Dt ds ++ (bt.bitsOf false dx dm ++ (df.bodyBits Lt Dt qs' ++ B))) by rw [hL]; simp only [List.append_assoc]);have HA3 := hd_ (show L = (A' ++ df.sb Lt sy ++ bt.bitsOf false lx lm ++ df.sb Dt ds) ++ (bt.bitsOf false dx dm ++ (df.bodyBits Lt Dt qs' ++ B)) by rw [hL]; simp only [List.append_assoc]);have HA4 := hd_ (show L = (A' ++ df.sb Lt sy ++ bt.bitsOf false lx lm ++ df.sb Dt ds ++ bt.bitsOf false dx dm) ++ (df.bodyBits Lt Dt qs' ++ B) by rw [hL]; simp only [List.append_assoc]);have HB1 : Hid ((A' ++ df.sb Lt sy).length = P' + Lt.getD sy 0) := hd_ (by rw [List.length_append, df.sb_length, hA]);have HB2 : Hid ((A' ++ df.sb Lt sy ++ bt.bitsOf false lx lm).length = P' + Lt.getD sy 0 + lm) := hd_ (by rw [List.length_append, HB1.out, bt.bitsOf_length]);have HB3 : Hid ((A' ++ df.sb Lt sy ++ bt.bitsOf false lx lm ++ df.sb Dt ds).length = P' + Lt.getD sy 0 + lm + Dt.getD ds 0) := hd_ (by rw [List.length_append, HB2.out, df.sb_length]);have HB4 : Hid ((A' ++ df.sb Lt sy ++ bt.bitsOf false lx lm ++ df.sb Dt ds ++ bt.bitsOf false dx dm).length = P' + Lt.getD sy 0 + lm + Dt.getD ds 0 + dm) := hd_ (by rw [List.length_append, HB3.out, bt.bitsOf_length]);have HPQ : Hid (P' + Lt.getD sy 0 + lm + Dt.getD ds 0 + dm + (df.bodyBits Lt Dt qs').length = P + (df.bodyBits Lt Dt ps).length) := hd_ (by
    have h0 := HPP.out;simp only [List.length_append, df.sb_length, bt.bitsOf_length] at h0;omega)
   obtain ⟨a1, a2⟩ := df.sb_at hL;rw [hA] at a1 a2;obtain ⟨t1, t2⟩ := df.take_at HA1.out hxl;rw [HB1.out] at t1 t2;obtain ⟨d1, d2⟩ := df.sb_at HA2.out;rw [HB2.out] at d1 d2;obtain ⟨u1', u2'⟩ := df.take_at HA3.out hdl;rw [HB3.out] at u1' u2';have HT1 := hd_ (And.intro t1 t2);have HT2 := hd_ (And.intro d1 d2);have HT3 := hd_ (And.intro u1' u2');have CN := hd_ (inext_any HJ.out HN.out HD1r.out HOK.out.1 sy (by omega) hcv.1 a1 a2 n2);have HFr2 := hd_ hfrom;have HCV2 := hd_ hcov';have HCV1 := hd_ hcv.2;clear a1 a2 t1 t2 d1 d2 u1' u2' hL hb hcv hcov hcov' hfrom hxl hdl HPP q7;clear hA hsy hlx hlm hds hdx hdm;obtain ⟨P1, hP1⟩ : ∃ z, P' + Lt.getD sy 0 = z := ⟨_, rfl⟩;rw [hP1] at CN HT1 HT2 HT3 HPQ HB4;obtain ⟨P3, hP3⟩ : ∃ z, P1 + lm + Dt.getD ds 0 = z := ⟨_, rfl⟩;rw [hP3] at HT3 HPQ HB4;have HP3 := hd_ hP3;clear hP1 hP3;have hsy2 : ¬ (sy : Int) = 256 := (by omega);have hsy3 : ¬ (sy : Int) < 256 := (by omega);have hsy4 : ¬ 285 < (sy : Int) := (by omega);have hsy5 : ¬ sy = 256 := (by omega);have hsy6 : ¬ sy < 256 := (by omega);have hsy7 : ¬ 285 < sy := (by omega);obtain ⟨kk, hkk⟩ : ∃ z, sy - 257 = z := ⟨_, rfl⟩;rw [hkk] at hlb;have e1 : IntKind.i64.wrap ((sy : Int) - 257) = (kk : Int) := i64o (by omega) (by omega);go_wp2_with fail
   refine CN.out.mono ?_;rintro e w2 ⟨rfl, hi2, hf2⟩;have HJ2 := hd_ hi2;have HF2 := hd_ (HF.out.trans hf2);have HDB := hd_ (HD2r.out.iff HJ.out hf2);clear hi2 hf2 CN HJ HF;have CG := hd_ (groups_any w2 kk 4 3 (by decide) (by decide) (by omega) (by decide) (by omega));go_wp2_with fail
   refine CG.out.mono ?_;rintro e w3 ⟨rfl, rfl⟩;clear CG;obtain ⟨gbv, hgbv⟩ : ∃ z, df.grB kk 4 3 = z := ⟨_, rfl⟩;obtain ⟨gmv, hgmv⟩ : ∃ z, df.grM kk 4 = z := ⟨_, rfl⟩;rw [hgbv, hgmv] at hlb;rw [hgbv, hgmv];clear hgbv hgmv
   go_upto_if 45 with (fail)
   go_cut [7, 8] from 46 to 105 (fun s7 s8 wx => s7 = .int .i64 (nb : Nat) /\ s8 = .int .i64 (lm : Nat) /\ wx = w2)
   case first =>
    rcases hlb with ⟨h1, h2, h3, h4⟩ | ⟨h1, h2, h3⟩
    ·have h2' : ((sy : Int) == 285) = true := by simp; omega
     have H3 := hd_ h3;have H4 := hd_ h4;clear h1 h2 h3 h4;go_wp2_with fail
     go_meet
     exact ⟨by rw [H4.out]; rfl, by rw [H3.out]; rfl, rfl⟩
    ·have hne : ((sy : Int) == 285) = false := by simp; omega
     clear h1;go_wp2_with fail
     go_meet
     exact ⟨by rw [h3], by rw [h2], rfl⟩
   case rest =>
    obtain ⟨rfl, rfl, rfl⟩ := hcut;have e2 : IntKind.i64.wrap ((nb : Int) + (lx : Int)) = (m : Int) := i64o (by omega) (by omega);have CT := hd_ (itake_any HJ2.out HN.out lm (by omega) (by have := HT1.out.1; have := HN.out; omega));rw [HT1.out.2] at CT;go_wp2_with fail
    refine CT.out.mono ?_;rintro e w3 ⟨rfl, hi3, hf3⟩;have HJ3 := hd_ hi3;have HF3 := hd_ (HF2.out.trans hf3);have HDC := hd_ (HDB.out.iff HJ2.out hf3);clear hi3 hf3 CT HJ2 HF2 HDB;have CN := hd_ (inext_any HJ3.out HN.out HDC.out HOK.out.2 ds (by omega) HCV1.out HT2.out.1 HT2.out.2 m2);have hds2 : ¬ 29 < (ds : Int) := (by omega);have hds3 : ¬ 29 < ds := (by omega);go_wp2_with fail
    refine CN.out.mono ?_;rintro e w4 ⟨rfl, hi4, hf4⟩;rw [HP3.out] at hi4;have HJ4 := hd_ hi4;have HF4 := hd_ (HF3.out.trans hf4);clear hi4 hf4 CN HJ3 HF3 HDC;have CG := groups_any w4 ds 2 1 (by decide) (by decide) (by omega) (by decide) (by omega);rw [hdb.1] at CG;have hdb2 := hdb.2;obtain ⟨gb, hgb⟩ : ∃ z, df.grB ds 2 1 = z := ⟨_, rfl⟩;rw [hgb] at CG hdb2;have CG := hd_ CG;have e3 : IntKind.i64.wrap ((gb : Int) + (dx : Int)) = (k : Int) := i64o (by omega) (by omega);clear hgb hdb;go_wp2_with fail
    refine CG.out.mono ?_;rintro e w5 ⟨rfl, rfl⟩;have CT := hd_ (itake_any HJ4.out HN.out dm (by omega) (by have := HT3.out.1; have := HN.out; omega));rw [HT3.out.2] at CT;go_wp2_with fail
    refine CT.out.mono ?_;rintro e w5 ⟨rfl, hi5, hf5⟩;have HJ5 := hd_ hi5;have HF5 := hd_ (HF4.out.trans hf5);clear hi5 hf5 CT HJ4 HF4 CG;have htl : (l.take i).length = i := (by rw [List.length_take]; omega);obtain ⟨ao, co, hvo, _, _, _⟩ := own_slice' HJ5.out.row;subst hvo;rw [htl] at HJ5;have c1 := (cr_ w5 1 HJ5.out.head (Value.slice ao i co) rfl);have hki : ¬ (i : Int) < (k : Int) := (by omega);have hki2 : ¬ i < k := (by omega);have CR := hd_ (iroom_any HJ5.out m (by rw [htl]; have := HM.out; omega));go_wp2_with fail
    refine CR.out.mono ?_;rintro e w6 ⟨rfl, hi6, hf6⟩;have HJ6 := hd_ hi6;have HF6 := hd_ (HF5.out.trans hf6);clear hi6 hf6 CR HJ5 HF5 c1;go_wp2_with fail
    go_loopg [81] m (fun gk2 s81 wq => ∃ (t : Nat) (v2 : Value), t <= m /\ gk2 = m - t /\ s81 = .int .i64 (t : Nat) /\ Ir b0 b1 wq x r sb n c (bt.bytes false L) (P3 + dm) most (l.take (i + t)) v2 /\ If b0 r x w wq)
    case atStart => exact ⟨0, _, Nat.zero_le _, rfl, by go_num, HJ6.out, HF6.out⟩
    case round =>
     obtain ⟨t, v2, ht, hgk, rfl, hir, hif⟩ := hrel;have Hg2 := hd_ hgk;have HJ7 := hd_ hir;have HF7 := hd_ hif;clear hgk hir hif;by_cases hlt : t < m
     ·go_upto_region 21 with (fail)
      have hcp := df.copy_one (l := l) (i := i) (k := k) (m := t) q3 q4 (by omega) (HQ7.out t hlt);have htk := df.take_more (l := l) (i := i + t) (by omega);have hyb := byte_getD HBY.out (i + t);have hol : (l.take (i + t)).length = i + t := (by rw [List.length_take]; omega);rw [hol] at hcp;obtain ⟨y, hy⟩ := Int.eq_ofNat_of_zero_le hyb.1;rw [hy] at hcp htk hyb;obtain ⟨o, ho⟩ : ∃ o, l.take (i + t) = o := ⟨_, rfl⟩;rw [ho] at HJ7 hcp htk hol;obtain ⟨z, hz⟩ : ∃ z, i + t - k = z := ⟨_, rfl⟩;obtain ⟨N, hN⟩ : ∃ N, i + t = N := ⟨_, rfl⟩;rw [hz] at hcp;rw [hN] at hol;obtain ⟨ao, co, hvo, _, _, hrow⟩ := own_slice' HJ7.out.row;subst hvo;rw [hol] at HJ7 hrow;obtain ⟨og, rfl, hcells⟩ : ∃ og, ao = some ⟨og, 0, none⟩ /\ ∀ i x, (o.map (Value.int .u8))[i]? = some x -> wr.cell? ⟨og, i, none⟩ = some x := by
       rcases hrow with ⟨h0, _⟩ | h0
       ·omega
       ·exact h0
      have cy : wr.cell? ⟨og, z, none⟩ = some (.int .u8 (y : Int)) := hcells z _ (by
       rw [List.getElem?_map, List.getElem?_eq_getElem (by omega)];rw [List.getD_eq_getElem?_getD, List.getElem?_eq_getElem (by omega)] at hcp;exact congrArg some (congrArg _ hcp))
      have c1 := (cr_ wr 1 HJ7.out.head (Value.slice (some ⟨og, 0, none⟩) N co) rfl);have hNs : N <= 17179869184 := (by have := HSM.out; have := HM.out; omega);have e4 : IntKind.i64.wrap ((N : Int) - (k : Int)) = (z : Int) := i64o (by omega) (by omega);have hzN : (z : Int) < (N : Int) := (by omega);have hzc : z < N := (by omega);have hbA : Below wr.heap.size wr (wr.alloc (Obj.cells #[.int .u8 (y : Int)] 5)) := (Below.refl wr.heap.size wr).alloc (Nat.le_refl _) _;have c1a := keep_cell hbA c1;have hbW : Below wr.heap.size wr (wr.alloc (Obj.cells #[.int .u8 (y : Int)] 5)).drew := Below.drew hbA;have HJW := hd_ (HJ7.out.below hbW);have HSW := hd_ (sl_bytes wr [(y : Int)] 5 (0, 0) wr.heap.size rfl (show 1 <= maxLen by decide) (by intro z hz; rw [List.mem_singleton.1 hz]; exact wf_of_bytes (l := [(y : Int)]) (by intro q hq; rw [List.mem_singleton.1 hq]; omega) _ (List.mem_singleton.2 rfl)));have hrw := HJW.out.1.row;rw [hol] at hrw;obtain ⟨v', w', hrun, ha⟩ := run_append_sl (wr.alloc (Obj.cells #[.int .u8 (y : Int)] 5)).drew 22 b1 _ N o hrw (some ⟨wr.heap.size, 0, none⟩) 1 1 [(y : Int)] (Sl.below HSW.out (Below.drew (Below.refl _ _))) (by have := HSM.out; have := HM.out; omega) HJW.out.1.hw;have ha2 := ha;rw [<- hol] at ha2;have HPU := hd_ (HJW.out.1.push (e := [(y : Int)]) ha2 (by rw [hol]; have := HM.out; show N + 1 <= most; omega));obtain ⟨a2, c2, rfl, _, _, _⟩ := own_slice' ha.1;have HRUN := hd_ hrun;have d1 := (cr_ w' 1 HPU.out.1 (Value.slice (some ⟨og, 0, none⟩) N co) rfl);have f1 := frozen_of_row w' _ 1 _ _ HPU.out.1;have HTK := hd_ htk;have HNN := hd_ hN;clear ha ha2 hrun hrw hbW hbA hcells hrow hcp htk hyb hy ho hz hN hol
      go_region_law (refine step_of_append rfl (.tmp 87) (.tmp 101) 22 22 rfl (Φ := fun a b => a = Value.slice a2 (N + 1) c2 /\ b = w') ⟨_, _, HRUN.out, rfl, rfl⟩ ?_; rintro _ _ ⟨rfl, rfl⟩)
      all_goals
       have HPV := hd_ (And.intro HPU.out.2.1 (HF7.out.trans (HJW.out.2.trans HPU.out.2.2)));generalize World.setCell _ ⟨x, 1, none⟩ (Value.slice a2 (N + 1) c2) = w9 at *;clear d1 f1 c1 c1a cy;go_wp2_with fail
       go_roundg (m - (t + 1))
       case measure => have := Hg2.out; omega
       case rel =>
        refine ⟨t + 1, .slice a2 (N + 1) c2, by omega, rfl, by go_num, ?_, HPV.out.2⟩;rw [show i + (t + 1) = i + t + 1 by omega, HTK.out];exact HPV.out.1
     ·obtain rfl : t = m := by omega
      go_wp2_with fail
      go_roundg (qs'.length + 1)
      case measure => have h0 := Hg.out; rw [List.length_cons] at h0; omega
      case rel =>
       exact ⟨qs', i + t, P3 + dm, A' ++ df.sb Lt sy ++ bt.bitsOf false lx lm ++ df.sb Dt ds ++ bt.bitsOf false dx dm, v2, rfl, HFr2.out, HCV2.out, HA4.out, HB4.out, HPQ.out, HJ7.out, HF7.out⟩
end Go.Proofs.YthpckmcgbmfmcaaGreatDoor
