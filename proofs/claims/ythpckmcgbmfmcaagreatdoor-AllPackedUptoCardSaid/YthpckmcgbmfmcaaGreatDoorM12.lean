/- Texts of this claim, joined. -/
import Derived.Test.YthpckmcgbmfmcaaGreatDoorM11
import Derived.RangeFuncWrites
import Derived.Laws.EntriesVeiled
set_option maxRecDepth 100000
set_option maxHeartbeats 12800000
namespace Go.Proofs.YthpckmcgbmfmcaaGreatDoor
open Go.RowKit Go.Sort Go.Shelf
attribute [local go_sem] Oper.semAt_some
theorem pk.flat_bytes (pre : List RunIx) : sm.Bytes (pk.flat pre) := by
 intro z hz;unfold pk.flat at hz;obtain ⟨p, _, hp⟩ := List.mem_flatMap.1 hz;rw [(List.mem_replicate.1 hp).2];exact p.2.2.2
theorem pk_round_call {n l f : Nat} {P : Program} {args : Array Value} {w : World} {R : Ending -> World -> Prop} (h : Calls P f args w R) : Fence.wide.fn f /\ CallsIn (Fence.wide.inRound l) n P f args w R := ⟨trivial, CallsIn.inRound _ (callsIn_wide.2 h)⟩
def PkPost (l : List Int) (w : World) (e : Ending) (w' : World) : Prop :=
 ∃ v out, e = .returned v /\ pk.Pk out l /\ w'.ownsRow w.heap.size 5 1 v out.length (out.map (Value.int .u8)) /\ Below w.heap.size w w'
def PkJ (w0 : World) (base : Nat) (fix : List (Nat × Array Value × TypeId)) (ob lb : Nat) (T : List Int) (W : World) : Prop :=
 ∃ out dec loose, pk.Pk out dec /\ dec ++ loose = T /\ PkI w0 base fix ob lb out loose W
theorem pkPack_any (b N cap : Nat) (l : List Int) (cur : Array Value) (w : World) (h : Sl .u8 w (some ⟨b, 0, none⟩) N cap l) (hb : w.heap[b]? = some (.cells cur 5 (0, 0))) (hN : N <= 17179869184) :
  Calls Tryz.prog 14 #[.slice (some ⟨b, 0, none⟩) N cap] w (PkPost l w) := by
 have HS := hd_ h;have HB := hd_ hb;have hmf : ∀ (fn : Fn) (first cap : Array Value) (w : World), (Instr.makeFunc fn first cap).run Tryz.prog w = .ok (.func fn first cap) w := fun _ _ _ _ => rfl
 clear h hb;refine (callsIn_wide (n := 6)).1 (callsIn_of_wp_marks Tryz.func14 rfl trivial ?_ rfl);simp only [Tryz.ntmps14, List.size_toArray, List.length_cons, List.length_nil, Nat.reduceAdd, Nat.reduceSub, Array.replicate_succ, Array.replicate_zero, List.push_toArray, List.append_toArray, List.nil_append, List.cons_append];refine wpIn_wide.2 ?_;go_upto_region 2 with (fail)
 obtain ⟨q0, q1⟩ := heap2 w (.cells #[.slice none 0 0] 22 (0, 0)) (.cells #[.slice none 0 0] 22 (0, 0));have B1 : Below w.heap.size w ((w.alloc (.cells #[.slice none 0 0] 22)).alloc (.cells #[.slice none 0 0] 22)) := ((Below.refl _ _).alloc (Nat.le_refl _) _).alloc (by simp) _;have hs1 : ((w.alloc (.cells #[.slice none 0 0] 22)).alloc (.cells #[.slice none 0 0] 22)).heap.size = w.heap.size + 1 + 1 := by simp
 generalize (w.alloc (.cells #[.slice none 0 0] 22)).alloc (.cells #[.slice none 0 0] 22) = w1 at *;obtain ⟨ob, hob⟩ : ∃ z, w.heap.size = z := ⟨_, rfl⟩;rw [hob] at q0 q1 hs1 ⊢;obtain ⟨lb, hlb⟩ : ∃ z, ob + 1 = z := ⟨_, rfl⟩;rw [hlb] at q1 hs1 ⊢;have q2 := heap_alloc_new w1 (.cells #[Value.nilFunc] 1 (0, 0));have z2 := frozen_of_row _ w1.heap.size 0 _ _ q2;have c2 := (cell_of_row _ w1.heap.size 0 _ _ (0, 0) q2).trans (show _ = some Value.nilFunc from rfl);have q3 := heap_alloc_new w1 (.cells #[.func (.func 34) #[] #[.pointer (some ⟨lb, 0, none⟩), .pointer (some ⟨ob, 0, none⟩)]] 1 (0, 0));have B2 : Below w1.heap.size w1 (w1.alloc (.cells #[.func (.func 34) #[] #[.pointer (some ⟨lb, 0, none⟩), .pointer (some ⟨ob, 0, none⟩)]] 1)) := (Below.refl _ _).alloc (Nat.le_refl _) _;have s2 : (w1.alloc (.cells #[.func (.func 34) #[] #[.pointer (some ⟨lb, 0, none⟩), .pointer (some ⟨ob, 0, none⟩)]] 1)).heap.size = w1.heap.size + 1 := by simp
 have HQ0 := hd_ q0;have HQ1 := hd_ q1;have HQ3 := hd_ q3;have HB1 := hd_ B1;have HB2 := hd_ B2;have HSZ := hd_ (And.intro hs1 (And.intro s2 (And.intro hob hlb)));clear q0 q1 hs1 B1 q2 q3 s2 B2 hob hlb;go_upto_region 3 with (fail)
 clear z2 c2 hmf;generalize w1.alloc (.cells #[.func (.func 34) #[] #[.pointer (some ⟨lb, 0, none⟩), .pointer (some ⟨ob, 0, none⟩)]] 1) = w2 at *;obtain ⟨tb, htb⟩ : ∃ z, w1.heap.size = z := ⟨_, rfl⟩;rw [htb] at HQ3 HB2 HSZ ⊢;go_wp2_with fail
 refine (runs_any _ _ _ w2).mono ?_;rintro e w3 ⟨rfl, rfl⟩;have b3 := heap_alloc_new w2 (.cells #[.slice (some ⟨b, 0, none⟩) N cap] 22 (0, 0));have hB3 : Below w2.heap.size w2 (w2.alloc (.cells #[.slice (some ⟨b, 0, none⟩) N cap] 22)) := (Below.refl _ _).alloc (Nat.le_refl _) _;have hs3 : (w2.alloc (.cells #[.slice (some ⟨b, 0, none⟩) N cap] 22)).heap.size = w2.heap.size + 1 := by simp
 obtain ⟨bx, hbx⟩ : ∃ b, w2.heap.size = b := ⟨_, rfl⟩;rw [hbx] at b3 hs3 ⊢;have HBX := hd_ hbx;clear hbx;go_wp2_with fail
 generalize w2.alloc (.cells #[.slice (some ⟨b, 0, none⟩) N cap] 22) = w3 at *;have HB3 := hd_ hB3;have HS3 := hd_ hs3;have BX := hd_ b3;have HE1 : Hid (tb = lb + 1 /\ bx = tb + 1 /\ ob = w.heap.size /\ lb = ob + 1) := hd_ (by have h1 := HSZ.out; have h2 := HBX.out; omega);have hbl : b < w.heap.size := block_lt HB.out;have hb13 : Below w.heap.size w w3 := (HB1.out.trans (HB2.out.mono (by have := HE1.out; have := HSZ.out; omega))).trans (hB3.mono (by have := HE1.out; have := HBX.out; omega));have HB13 := hd_ hb13;have HQ0' := hd_ ((hB3.block _ (by have := HE1.out; have := HBX.out; omega)).trans ((HB2.out.block _ (by have := HE1.out; omega)).trans HQ0.out));have HQ1' := hd_ ((hB3.block _ (by have := HE1.out; have := HBX.out; omega)).trans ((HB2.out.block _ (by have := HE1.out; omega)).trans HQ1.out));have HQ3' := hd_ ((hB3.block _ (by have := HE1.out; have := HBX.out; omega)).trans HQ3.out);have HBD := hd_ ((hb13.block _ hbl).trans HB.out);have HSD := hd_ (HS.out.below hb13);clear hB3 hs3 b3 hb13 HQ0 HQ1 HQ3 HB1 HB2 htb;obtain ⟨fix, hfx⟩ : ∃ x : List (Nat × Array Value × TypeId), x = [(tb, #[.func (.func 34) #[] #[.pointer (some ⟨lb, 0, none⟩), .pointer (some ⟨ob, 0, none⟩)]], 1), (bx, #[.slice (some ⟨b, 0, none⟩) N cap], 22), (b, cur, 5)] := ⟨_, rfl⟩;have HFX := hd_ hfx;have hA : PkAt w w3.heap.size fix ob lb := by
  have h1 := HE1.out;have h2 := HS3.out;refine ⟨fun p hp => ?_, by omega, by omega, by omega⟩;rw [hfx] at hp;simp only [List.mem_cons, List.not_mem_nil, or_false] at hp;rcases hp with rfl | rfl | rfl <;> dsimp only <;> omega
 have HAA := hd_ hA;have HI0 : Hid (PkI w w3.heap.size fix ob lb [] [] w3) := hd_ (by
  refine ⟨fun p hp => ?_, ⟨_, _, HQ0'.out, HQ1'.out, World.ownsRow_nil _ _ _ _, OwnS.nil _ _, .inl rfl⟩, HB13.out, Nat.le_refl _⟩;rw [hfx] at hp;simp only [List.mem_cons, List.not_mem_nil, or_false] at hp;rcases hp with rfl | rfl | rfl
  ·exact HQ3'.out
  ·exact BX.out
  ·exact HBD.out)
 have hbx3 : bx < w3.heap.size := by have := HS3.out; omega
 have hb3 : b < w3.heap.size := by have := HS3.out; have := HE1.out; omega
 have HKP : Hid (∀ (o1 o2 l1 l2 : List Int) (W W' : World), PkI w w3.heap.size fix ob lb o1 l1 W -> PkI w w3.heap.size fix ob lb o2 l2 W' -> KeepsL [bx, b] W W') := hd_ (by
  intro o1 o2 l1 l2 W W' h h' j hj;simp only [List.mem_cons, List.not_mem_nil, or_false] at hj;rcases hj with rfl | rfl
  ·exact (h'.fix (j, #[.slice (some ⟨b, 0, none⟩) N cap], 22) (by rw [HFX.out]; simp)).trans (h.fix (j, #[.slice (some ⟨b, 0, none⟩) N cap], 22) (by rw [HFX.out]; simp)).symm
  ·exact (h'.fix (j, cur, 5) (by rw [HFX.out]; simp)).trans (h.fix (j, cur, 5) (by rw [HFX.out]; simp)).symm)
 clear hA hfx;refine (wpIn_wide (n := 6)).1 ?_;refine wpIn_rangeFunc_ownH rfl (by omega) (gf := 78) (lb := #[.pointer (some ⟨bx, 0, none⟩)]) rfl trivial (enters_of Tryz.func78 (by kernel_rfl) rfl)
  (runs_stops 5 bx b 0 N cap l hN w3 BX.out HSD.out hb3) (fun h k => h.trans k) (KeepsL.put (fun j hj => by simp only [List.mem_cons, List.not_mem_nil, or_false] at hj; rcases hj with rfl | rfl <;> assumption)) (Below.refl _ _) (fun _ => rfl)
  (fun pre W1 => PkJ w w3.heap.size fix ob lb (pk.flat pre) W1)
  (fun _ _ _ => False)
  (fun s A B row hs hg hr => by obtain ⟨o, d, lo, h1, h2, h3⟩ := hs; exact ⟨o, d, lo, h1, h2, h3.own (Nat.le_refl _) HAA.out hg hr⟩)
  (fun _ _ _ _ _ hs _ _ => hs)
  ⟨[], [], [], .nil, rfl, HI0.out⟩
  (fun x a' _ => a' = { tmps := #[.slice (some ⟨b, 0, none⟩) N cap, undef, .slice none 0 0, .pointer (some ⟨ob, 0, none⟩), .pointer (some ⟨lb, 0, none⟩), .pointer (some ⟨tb, 0, none⟩), .int .u8 x.1.1, .int .i64 (x.1.2 : Nat), .func (.func 34) #[] #[.pointer (some ⟨lb, 0, none⟩), .pointer (some ⟨ob, 0, none⟩)], .slice (some ⟨b, 0, none⟩) N cap, .func (.func 78) #[] #[.pointer (some ⟨bx, 0, none⟩)], .int .u8 x.1.1, .int .i64 (x.1.2 : Nat), undef, undef, undef, undef, undef, undef, undef, undef, undef, undef, undef, undef, undef, undef, undef, undef, undef, undef, undef, undef, undef, undef, undef, undef, undef, undef, undef, undef, undef, undef, undef, undef], defers := [] })
  (fun x a' s A B row hs hg hr => hs) ?assign ?body ?done ?stop
 case assign =>
  intro lr pre x W1 K hI hK;have HI := hd_ hI;have HKK := hd_ hK;clear hI hK;obtain ⟨⟨xv, xn⟩, hx⟩ := x;unfold runEnc;dsimp only at HKK ⊢;gi_wp2
  exact HKK.out _ _ ((keepsOthers_below (Below.refl _ _)).from _) (KeepsL.refl _ _) HI.out rfl
 case body =>
  rintro lr pre ⟨⟨xv, n⟩, hx1, hx2, hx3, hx4⟩ a' W1 hl ⟨rl, hrl⟩ ⟨out, dec, loose, hP, hD, hI⟩ rfl hlen;dsimp only at hx1 hx2 hx3 hx4 ⊢;obtain ⟨vo, vl, hob, hlb, hown, hls, hap⟩ := hI.rows;obtain ⟨ao, oc, rfl, _, _, _⟩ := own_slice' hown;obtain ⟨al, cl, rfl, _, _⟩ := hls.form;have hfl : (dec ++ loose).length <= 2199023255552 := by
   have h1 := pk.flat_len pre;rw [<- hD] at h1;omega
  have hol : out.length <= 2 * dec.length := hP.len;obtain ⟨ln, hln⟩ : ∃ z, loose.length = z := ⟨_, rfl⟩;rw [hln] at hlb hls hap;have kl := (cr_ W1 0 hlb (Value.slice al ln cl) rfl);have HI := hd_ hI;have HP := hd_ hP;have HD := hd_ hD;have HOW := hd_ hown;have HLS := hd_ hls;have HOB := hd_ hob;have HLB := hd_ hlb;have HLN := hd_ hln;have HFL := hd_ hfl;have HOL := hd_ hol;have HRL := hd_ hrl;clear hob hlb hown hls hap hfl hol hln hI hP hD hrl hlen;gi_upto_region 6 with (fail)
  gi_cut [24] from 13 (fun s24 wx => s24 = .bool (decide (n < 3 /\ ¬ (n = 2 /\ ln = 0))) /\ wx = W1)
  case first =>
   have HQ : ∀ q : Bool, decide (n < 3 /\ ¬ (n = 2 /\ ln = 0)) = q -> Hid (decide (n < 3 /\ ¬ (n = 2 /\ ln = 0)) = q) := fun _ h => hd_ h
   by_cases h3 : n < 3
   ·have d3 : decide ((n : Int) < 3) = true := by simp; omega
    by_cases h2 : n = 2
    ·have e2 : ((n : Int) == 2) = true := by simp; omega
     by_cases h0 : ln = 0
     ·have e0 : ((ln : Int) == 0) = true := by simp; omega
      have HV := HQ false (decide_eq_false (fun h => h.2 ⟨h2, h0⟩));clear HQ h2 h0 h3;gi_wp2
      gi_meet
      exact ⟨by rw [HV.out], rfl⟩
     ·have e0 : ((ln : Int) == 0) = false := by simp; omega
      have HV := HQ true (decide_eq_true ⟨h3, fun h => h0 h.2⟩);clear HQ h2 h0 h3;gi_wp2
      gi_meet
      exact ⟨by rw [HV.out], rfl⟩
    ·have e2 : ((n : Int) == 2) = false := by simp; omega
     have HV := HQ true (decide_eq_true ⟨h3, fun h => h2 h.1⟩);clear HQ h2 h3;gi_wp2
     gi_meet
     exact ⟨by rw [HV.out], rfl⟩
   ·have d3 : decide ((n : Int) < 3) = false := by simp; omega
    have HV := HQ false (decide_eq_false (fun h => h3 h.1));clear HQ h3;refine round_region (by rintro ⟨_, _, h⟩; exact h) (by kernel_rfl) ?_;go_wp2_with fail
    gi_wp2
    gi_meet
    exact ⟨by rw [HV.out], rfl⟩
  case rest =>
   obtain ⟨rfl, rfl⟩ := hcut;clear kl;by_cases hc : n < 3 /\ ¬ (n = 2 /\ ln = 0)
   ·rw [decide_eq_true hc]
    clear hc;gi_wp2
    rename World => W1
    gi_loopw [26] (fun s26 wr => ∃ k : Nat, s26 = .int .i64 (k : Nat) /\ k <= n /\ PkI w w3.heap.size fix ob lb out (loose ++ List.replicate k xv) wr /\ KeepsFrom w3.heap.size W1 wr) (fun s26 _ => n - (intOf s26).toNat)
    case atStart => exact ⟨0, by simp, Nat.zero_le _, by rw [List.replicate_zero, List.append_nil]; exact HI.out, (keepsOthers_below (Below.refl _ _)).from _⟩
    case round =>
     obtain ⟨k, rfl, hk, hIk, hKk⟩ := hrel;have HIK := hd_ hIk;have HKK := hd_ hKk;obtain ⟨vo, vl, hob, hlb, _, hls, _⟩ := hIk.rows;clear hIk hKk;by_cases hlt : k < n
     ·obtain ⟨a2, c2, rfl, _, _⟩ := hls.form
      obtain ⟨lk, hlk⟩ : ∃ z, (loose ++ List.replicate k xv).length = z := ⟨_, rfl⟩;have hlk2 : lk <= 2199023255680 := by
       have h1 := HFL.out;rw [List.length_append] at h1 hlk;rw [List.length_replicate] at hlk;omega
      rw [hlk] at hls hlb;have HOBK := hd_ hob;have HLBK := hd_ hlb;have HLK := hd_ hlk;have kl := (cr_ wr 0 hlb (Value.slice a2 lk c2) rfl);have hb8 : Below wr.heap.size wr (wr.alloc (.cells #[.int .u8 xv] 5)) := (Below.refl _ _).alloc (Nat.le_refl _) _;have n8 := (cr_ _ 0 (heap_alloc_new wr (.cells #[.int .u8 xv] 5)) (Value.int .u8 xv) rfl);have HRUN := hd_ (run_append_S _ 22 w3.heap.size _ _ (hls.below hb8) wr.heap.size xv n8 (by rw [hlk]; omega) (Nat.le_trans HIK.out.size hb8.size));have HB8 := hd_ hb8;have hkn : (k : Int) < (n : Int) := (by omega);clear hob hlb hls hlk hb8 n8;gi_upto_region 9 with (fail)
      refine round_region (by rintro ⟨_, _, h⟩; exact h) (by kernel_rfl) ?_;go_wp2_with (at_builtin; go_must (refine wpList_of_append rfl (.tmp 28) (.tmp 30) 22 22 rfl HRUN.out ?_; rintro v9 w9 ⟨ho9, hg9, hat9⟩; obtain ⟨a9, c9, e9, _, _⟩ := ho9.form; subst e9; have HPL := hd_ (HIK.out.putLoose HAA.out HOBK.out HLBK.out ((grown_any (grown_of_below HB8.out)).trans hg9) ho9 (hat9.imp id (fun ⟨k, h1, h2⟩ => ⟨k, h1, Nat.le_trans HB8.out.size h2⟩))); have c9' := (cr_ w9 0 HPL.out.1 (Value.slice a2 lk c2) rfl); have z9 := frozen_of_row w9 lb 0 _ _ HPL.out.1; clear ho9 hg9 hat9))
      have hadd : loose.length + (k + 1) = (loose ++ List.replicate k xv ++ [xv]).length := (by simp);rw [hadd];clear c9' z9 hadd;generalize w9.setCell ⟨lb, 0, none⟩ (.slice a9 (loose ++ List.replicate k xv ++ [xv]).length c9) = w10 at *;have hwk : IntKind.i64.wrap ((k : Int) + 1) = ((k + 1 : Nat) : Int) := i64i (by omega);gi_wp2
      go_roundw
      case rel =>
       refine ⟨k + 1, by first | rfl | (congr 1), hlt, ?_, HKK.out.trans (HPL.out.2.2.from _)⟩;have h9 := HPL.out.2.1;rw [List.append_assoc, <- List.replicate_succ'] at h9;exact h9
      case measure => simp [intOf]; omega
     ·obtain rfl : k = n := by omega
      gi_wp2
      refine ⟨HKK.out, HKP.out _ _ _ _ _ _ HI.out HIK.out, out, dec, loose ++ List.replicate k xv, HP.out, ?_, HIK.out⟩;rw [pk.flat_snoc, <- HD.out, List.append_assoc]
   ·rw [decide_eq_false hc]
    have hn2 : 2 <= n := (by omega);rename World => W1
    have hby : sm.Bytes (dec ++ loose) := (by rw [HD.out]; exact pk.flat_bytes pre);have CF := hd_ (flush_any w w3.heap.size fix ob lb HAA.out out dec loose W1 HI.out HP.out hby (by have := HFL.out; omega));have ct := (cr_ W1 0 (HI.out.fix (tb, #[.func (.func 34) #[] #[.pointer (some ⟨lb, 0, none⟩), .pointer (some ⟨ob, 0, none⟩)]], 1) (by rw [HFX.out]; simp)) (Value.func (.func 34) #[] #[.pointer (some ⟨lb, 0, none⟩), .pointer (some ⟨ob, 0, none⟩)]) rfl);clear hc hby;gi_wp2
    refine pk_round_call ?_;refine CF.out.mono ?_;rintro e W2 ⟨⟨v, rfl⟩, out2, hP2, hI2, hK2⟩;have HI2 := hd_ hI2;have HP2 := hd_ hP2;have HK2 := hd_ hK2;obtain ⟨vo, vl, hob, hlb, hown, _, _⟩ := hI2.rows;obtain ⟨ao2, oc2, rfl, _, _, _⟩ := own_slice' hown;have hol2 : out2.length <= 2 * (dec ++ loose).length := hP2.len;have hfl2 := HFL.out;obtain ⟨ol, hol⟩ : ∃ z, out2.length = z := ⟨_, rfl⟩;rw [hol] at hob hown hol2;have HOL2 := hd_ hol;have HOB2 := hd_ hob;have HLB2 := hd_ hlb;have ko := (cr_ W2 0 hob (Value.slice ao2 ol oc2) rfl);obtain ⟨q, hq⟩ : ∃ z, 257 - n = z := ⟨_, rfl⟩;have hw1 : IntKind.i64.wrap (257 - (n : Int)) = (q : Int) := i64o (by omega) (by omega);have hw2 : IntKind.u8.wrap (q : Int) = (q : Int) := (by rw [IntKind.wrap]; simp [IntKind.bits, IntKind.signed]; omega);have hbq : sm.Bytes [(q : Int), xv] := by
     intro z hz;simp only [List.mem_cons, List.not_mem_nil, or_false] at hz;rcases hz with rfl | rfl
     ·omega
     ·exact ⟨hx3, hx4⟩
    have hb8 : Below W2.heap.size W2 (W2.alloc (.cells #[.int .u8 (q : Nat), .int .u8 xv] 5)) := (Below.refl _ _).alloc (Nat.le_refl _) _;have hs8 : Sl .u8 (W2.alloc (.cells #[.int .u8 (q : Nat), .int .u8 xv] 5)) (some ⟨W2.heap.size, 0, none⟩) 2 2 [(q : Int), xv] := sl_bytes W2 [(q : Int), xv] _ _ _ rfl (by unfold maxLen; simp) (wf_of_bytes hbq);have HB8 := hd_ hb8;have HQE := hd_ hq;have HRUN := hd_ (run_append_sl_at _ 22 w3.heap.size _ _ out2 (ownsRow_below hown hb8) ⟨W2.heap.size, 0, none⟩ 2 2 [(q : Int), xv] hs8 (by omega) (Nat.le_trans hI2.size hb8.size));clear hI2 hP2 hK2 hob hlb hown hol2 hfl2 hol hq hbq hb8 hs8 CF ct;gi_upto_region 12 with (fail)
    refine round_region (by rintro ⟨_, _, h⟩; exact h) (by kernel_rfl) ?_;go_wp2_with (at_builtin; go_must (refine wpList_of_append rfl (.tmp 35) (.tmp 40) 22 22 rfl HRUN.out ?_; rintro v9 w9 ⟨⟨ho9, hg9⟩, hat9⟩; obtain ⟨b9, c9, e9, _⟩ := own_form ho9 (by omega); subst e9; rw [show ol + 2 = (out2 ++ [(q : Int), xv]).length by rw [List.length_append, HOL2.out]; rfl] at ho9 hat9; have HPO := hd_ (HI2.out.putOut HAA.out HOB2.out HLB2.out ((grown_any (grown_of_below HB8.out)).trans hg9) ho9 (hat9.imp id (fun h => ⟨_, h, HB8.out.size⟩))); have c9' := (cr_ w9 0 HPO.out.1 (Value.slice ao2 ol oc2) rfl); have z9 := frozen_of_row w9 ob 0 _ _ HPO.out.1; clear ho9 hg9 hat9))
    rw [show ol + 2 = (out2 ++ [(q : Int), xv]).length by rw [List.length_append, HOL2.out]; rfl];refine ⟨(HK2.out.from _).trans (HPO.out.2.2.from _), HKP.out _ _ _ _ _ _ HI.out HPO.out.2.1, out2 ++ [(q : Int), xv], dec ++ loose ++ List.replicate n xv, [], ?_, ?_, HPO.out.2.1⟩
    ·have := HP2.out.snocRun n xv hn2 hx2
     rw [HQE.out] at this;exact this
    ·rw [pk.flat_snoc, <- HD.out, List.append_nil]
 case done =>
  rintro D ys W1 hD hS ⟨out, dec, loose, hP, hDd, hI⟩ hK;have hby : sm.Bytes (dec ++ loose) := by rw [hDd]; exact pk.flat_bytes ys
  have hll := HS.out.len;have hfl : (dec ++ loose).length <= 4398046511104 := by rw [hDd, hS, hll]; omega
  have CF := hd_ (flush_any w w3.heap.size fix ob lb HAA.out out dec loose W1 hI hP hby hfl);have ct := (cr_ W1 0 (hI.fix (tb, #[.func (.func 34) #[] #[.pointer (some ⟨lb, 0, none⟩), .pointer (some ⟨ob, 0, none⟩)]], 1) (by rw [HFX.out]; simp)) (Value.func (.func 34) #[] #[.pointer (some ⟨lb, 0, none⟩), .pointer (some ⟨ob, 0, none⟩)]) rfl);have HK := hd_ hK;have HDL := hd_ (hDd.trans hS);clear hby hfl hll hI hP hDd hK hS;go_wp2_with fail
  refine CF.out.mono ?_;rintro e W2 ⟨⟨v, rfl⟩, out2, hP2, hI2, hK2⟩;have HI2 := hd_ hI2;have HP2 := hd_ hP2;have HKD := hd_ (hK2.2 D _ HK.out rfl);obtain ⟨vo, vl, hob, hlb, hown, _, _⟩ := hI2.rows;obtain ⟨ao2, oc2, rfl, _, _, _⟩ := own_slice' hown;have ko := (cr_ W2 0 hob (Value.slice ao2 out2.length oc2) rfl);have HOW := hd_ hown;clear hI2 hP2 hK2 hob hlb hown CF ct;go_wp2_with fail
  refine ⟨by simp, .inl ⟨_, _, rfl, run_takeDeferred HKD.out, ?_⟩⟩;have hg9 := grownBy_putObj' W2 D (.deferred none);have hw3 := HB13.out.size;refine ⟨_, results_tmp (t := 2) rfl _ _ _, _, out2, rfl, by rw [<- HDL.out]; exact HP2.out, ?_, take_deferred_below (by omega) (Nat.le_refl _) HI2.out.below _⟩;exact World.ownsRow.mono (own_row hg9 (fun r e => by cases e; exact ⟨_, HKD.out, rfl⟩) HOW.out) hw3
 case stop =>
  rintro D c pre W1 _ _ h _;exact h.elim
end Go.Proofs.YthpckmcgbmfmcaaGreatDoor
namespace Go.Proofs.YthpckmcgbmfmcaaGreatDoor
open Go.RowKit Go.Sort
def Same8Post (b : Bool) (w : World) (e : Ending) (w' : World) : Prop := e = .returned (.bool b) /\ Below w.heap.size w w'
theorem same8_any (a a' : Option Addr) (n n' cap cap' : Nat) (l l' : List Int) (w : World) (h : Sl .u8 w a n cap l) (h' : Sl .u8 w a' n' cap' l') :
  Calls Tryz.prog 15 #[.slice a n cap, .slice a' n' cap'] w (Same8Post (decide (l = l')) w) := by
 have HS := hd_ h;have HS' := hd_ h';have hm := h.fits;have hm2 := h.most;unfold maxLen at hm2;clear h h';by_cases h3 : n = n'
 ·subst h3
  go_enter Tryz.func15, Tryz.ntmps15
  go_wp2_with fail
  go_loopg [5] n (fun gk i wr => ∃ k : Nat, k <= n /\ gk = n - k /\ i = .int .i64 k /\ Below w.heap.size w wr /\ ∀ j, j < k -> l.getD j 0 = l'.getD j 0)
  case atStart => exact ⟨0, by omega, rfl, rfl, Below.refl _ _, fun j hj => absurd hj (by omega)⟩
  case round =>
   obtain ⟨k, hk, hg, rfl, hb, hj⟩ := hrel;have Hg := hd_ hg;have Hb := hd_ hb;have Hj := hd_ hj;clear hg hb hj;by_cases hlt : k < n
   ·obtain ⟨b, off, rfl, hcell⟩ := HS.out.cells (by omega)
    obtain ⟨b', off', rfl, hcell'⟩ := HS'.out.cells (by omega);have x1 := keep_cell Hb.out (hcell k hlt);have x2 := keep_cell Hb.out (hcell' k hlt);clear hcell hcell';by_cases heq : l.getD k 0 = l'.getD k 0
    ·have HE := hd_ heq
     rw [<- heq] at x2;clear heq;obtain ⟨s, hs⟩ : ∃ s, l.getD k 0 = s := ⟨_, rfl⟩;rw [hs] at x1 x2;clear hs;have hss : (s != s) = false := (by simp);go_upto_region 6 with (fail)
     go_quiet (fail)
     have HB5 := hd_ (Hb.out.trans ((below_drewN (Below.refl wr.heap.size wr) nq).mono Hb.out.size));clear x1 x2;generalize wr.drewN nq = w5 at *;go_wp2_with fail
     go_roundg (n - (k + 1))
     case measure => have := Hg.out; omega
     case rel => exact ⟨k + 1, by omega, rfl, by go_num, HB5.out, fun j hj => by
      rcases Nat.lt_or_ge j k with h | h
      ·exact Hj.out j h
      ·obtain rfl : j = k := by omega
       exact HE.out⟩
    ·have HV : Hid (decide (l = l') = false) := hd_ (decide_eq_false fun h => heq (by rw [h]))
     generalize l.getD k 0 = s at *;generalize l'.getD k 0 = s' at *;have hss : (s != s') = true := (by simpa using heq);have hss' : (s == s') = false := (by simpa using heq);clear heq;go_upto_region 6 with (fail)
     go_quiet (fail)
     have HB5 := hd_ (Hb.out.trans ((below_drewN (Below.refl wr.heap.size wr) nq).mono Hb.out.size));clear x1 x2;generalize wr.drewN nq = w5 at *;go_wp2_with fail
     go_ret
     exact ⟨by rw [HV.out]; rfl, HB5.out⟩
   ·obtain rfl : k = n := by omega
    have HV : Hid (decide (l = l') = true) := hd_ (decide_eq_true (list_eq_getD (by rw [HS.out.len, HS'.out.len]) fun i hi => Hj.out i (by rw [HS.out.len] at hi; exact hi)));clear hlt;go_wp2_with fail
    go_ret
    exact ⟨by rw [HV.out]; rfl, Hb.out⟩
 ·have HV : Hid (decide (l = l') = false) := hd_ (decide_eq_false fun h => h3 (by rw [<- HS.out.len, <- HS'.out.len, h]))
  have hss : ((n : Int) != (n' : Int)) = true := by simp; omega
  have hss' : ((n : Int) == (n' : Int)) = false := by simp; omega
  clear h3;go_enter Tryz.func15, Tryz.ntmps15
  go_wp2_with fail
  go_ret
  exact ⟨by rw [HV.out]; rfl, Below.refl _ _⟩
end Go.Proofs.YthpckmcgbmfmcaaGreatDoor
namespace Go.Proofs.YthpckmcgbmfmcaaGreatDoor
open Go.RowKit
theorem bytes_any (a : Option Addr) (n cap : Nat) (l : List Int) (w : World) (h : Sl .u8 w a n cap l) (hr : n <= 140737488355328) :
  Calls Tryz.prog 6 #[.slice a n cap] w fun e w' => OwnPost w.heap.size n l w e w' := by
 obtain ⟨i0, hi, hz0, hz1, hz2⟩ := info_parts infoByte;have hlit := World.ownsRow_lit (e := 5) (size := 1) w #[] 0 (Nat.le_refl _) (by simp) rfl;have H := hd_ h;have Hlit := hd_ hlit;clear h hlit;cases a with
 | none =>
  obtain rfl : cap = 0 := H.out.bare rfl;obtain rfl : n = 0 := by have := H.out.fits; omega
  obtain rfl : l = [] := List.length_eq_zero_iff.1 H.out.len;go_enter Tryz.func6, Tryz.ntmps6
  go_wp2_with (at_builtin; go_must (refine wpList_append_own_none rfl _ _ 22 rfl w.heap.size 5 i0 1 Tryz.underlying22 hi _ 0 [] rfl Hlit.out rfl ?_))
  go_ret
  exact ⟨_, rfl, fresh_of Hlit.out (by simp), (Below.refl _ _).alloc (Nat.le_refl _) _⟩
 | some ad =>
  have hsl := H.out.below ((Below.refl _ _).alloc (Nat.le_refl _) (.cells #[] 5));have HN := hd_ hsl.at_news;have hsz : (w.alloc (.cells #[] 5)).heap.size = w.heap.size + 1 := by simp
  have Hsz := hd_ hsz;clear hsl hsz;go_enter Tryz.func6, Tryz.ntmps6
  go_wp2_with (at_builtin; go_must (refine wpList_append_own _ rfl _ _ 22 rfl w.heap.size 5 i0 (.int .u8 0) 1 1 Tryz.underlying22 hi hz0 hz1 hz2 rfl (by decide) (.slice (some ⟨w.heap.size, 0, none⟩) 0 0) 0 _ rfl Hlit.out ad n cap (l.map (Value.int .u8)) rfl (by rw [List.length_map, H.out.len, Nat.mul_one]) HN.out (ints_oneCell _ _) (by unfold maxLen; omega) (by omega) (by rw [Hsz.out]; omega) ?_; intro v' w1 hown hg hnil; have Hown := hd_ hown; have Hg := hd_ hg; have Hnil := hd_ hnil; clear hown hg hnil))
  go_ret
  have ho : w1.ownsRow w.heap.size 5 1 v' n (l.map (Value.int .u8)) := by
   have := Hown.out
   simpa using this
  refine ⟨_, rfl, fresh_of ho (fun e => ?_), ((Below.refl _ _).alloc (Nat.le_refl _) _).grown Hg.out (by simp) (fun k hk => Nat.le_of_eq (Option.some.inj hk))⟩;exact absurd (Hnil.out.1 e) (by simp)
theorem bytes8_any (a : Option Addr) (n cap : Nat) (l : List Int) (w : World) (h : Sl .u8 w a n cap l) (hr : n <= 140737488355328) :
  Calls Tryz.prog 6 #[.slice a n cap] w fun e w' => ∃ g c cur, e = .returned (.slice (some ⟨g, 0, none⟩) n c) /\ Sl .u8 w' (some ⟨g, 0, none⟩) n c l /\ w'.heap[g]? = some (.cells cur 5 (0, 0)) /\ Below w.heap.size w w' := by
 refine (bytes_any a n cap l w h hr).mono ?_;rintro e w' ⟨v, rfl, hf, hb⟩;obtain ⟨g, c, rfl, _, hrow⟩ := hf;have hs := Fresh.sl hrow (wf_of_bytes h.bytes);rcases hrow.2 with ⟨h', _⟩ | ⟨g', cap', cur, h', _, h2, _⟩
 ·cases h'
 ·cases h'
  exact ⟨g, c, cur, rfl, hs, h2, hb⟩
end Go.Proofs.YthpckmcgbmfmcaaGreatDoor
