/- Texts of this claim, joined. -/
import Derived.Test.YthpckmcgbmfmcaaGreatDoorM36
set_option maxRecDepth 100000
set_option maxHeartbeats 12800000
namespace Go.Proofs.YthpckmcgbmfmcaaGreatDoor
open Go.RowKit Go.Sort Go.Maps Go.MapKept Go.ChangeMaps
theorem infoPiece : (Tryz.prog.info? 176).map (fun i => (i.zero, i.size, i.bytes)) = some (some (.agg #[.int .u8 0, .int .i64 0, .int .i64 0]), 3, 24) := by kernel_rfl
def OwnP (base : Nat) (w : World) (v : Value) (ps : List df.Piece) : Prop := w.ownsRow base 176 3 v ps.length (df.pRow ps)
theorem df.Piece.cells_one (p : df.Piece) : ∀ u ∈ p.cells, u.oneCell' = true := by
 intro u hu;simp [df.Piece.cells] at hu;rcases hu with rfl | rfl | rfl <;> rfl
theorem run_append_p (w : World) (ty : TypeId) (base : Nat) (v : Value) (t : List df.Piece) (k : df.Piece) (h : OwnP base w v t) (hl : t.length <= 1099511627776) (hb : base <= w.heap.size) (g : Nat) (hg : w.heap[g]? = some (.cells #[.int .u8 k.b, .int .i64 (k.n : Nat), .int .i64 (k.back : Nat)] 176 (0, 0))) :
  ∃ v' w', (Builtin.append_ #[107, 107] ty #[v, .slice (some ⟨g, 0, none⟩) 1 1]).run Tryz.prog w = .ok v' w' /\ (OwnP base w' v' (t ++ [k]) /\ w.grownBy w' v.ownBlock) := by
 obtain ⟨i, hi, hz, hs, hby⟩ := info_parts infoPiece;obtain ⟨v', w', h1, h2, h3, _, _⟩ := run_append_own_at (P := Tryz.prog) w base 107 ty 176 i _ 3 24 Tryz.underlying107 hi hz hs hby rfl (by decide) v t.length (df.pRow t) h ⟨g, 0, none⟩ 1 1 k.cells rfl (by
  intro j u hu;rw [Addr.add_mid, Nat.zero_add, cell_of_row w g j _ _ (0, 0) hg];rw [<- hu];simp [df.Piece.cells]) k.cells_one (by unfold maxLen; omega) (by omega) hb
 refine ⟨v', w', h1, ?_, h3⟩;unfold OwnP;rw [List.length_append];have e : df.pRow (t ++ [k]) = df.pRow t ++ k.cells := by simp [df.pRow]
 rw [e];exact h2
theorem own_piece {base : Nat} {w : World} {v : Value} {t : List df.Piece} (h : OwnP base w v t) : ∀ b, v.ownBlock = some b -> base <= b /\ b < w.heap.size /\ ∃ cur, w.heap[b]? = some (.cells cur 176 (0, 0)) := by
 intro b hb;rcases h.2 with ⟨h', _⟩ | ⟨g, cap, cur, h', h1, h2, _⟩
 ·rw [h'] at hb
  cases hb
 ·rw [h'] at hb
  obtain rfl : g = b := Option.some.inj hb;exact ⟨h1, block_lt h2, cur, h2⟩
theorem OwnP.note {base : Nat} {w w' : World} {v : Value} {t : List df.Piece} (h : OwnP base w v t) (hk : ∀ (j : Nat) (c : Array Value) (t : TypeId), w.heap[j]? = some (.cells c t (0, 0)) -> t ≠ 3 -> w'.heap[j]? = some (.cells c t (0, 0))) : OwnP base w' v t := by
 unfold OwnP World.ownsRow at h ⊢;refine ⟨h.1, ?_⟩;rcases h.2 with h1 | ⟨g', cap, cur, e, a1, a2, a3⟩
 ·exact .inl h1
 ·exact .inr ⟨g', cap, cur, e, a1, hk _ _ _ a2 (by decide), a3⟩
theorem own_pz {base : Nat} {w : World} {v : Value} {t : List df.Piece} (h : OwnP base w v t) : ∃ a c, v = .slice a t.length c /\ df.Pz w a t.length t := by
 rcases h.2 with ⟨h', h0⟩ | ⟨g, cap, cur, h', h1, h2, h3, h4, h5, h6⟩
 ·have hl := h.1
  rw [h0] at hl;have hl0 : t.length = 0 := by simp at hl; omega
  exact ⟨none, 0, by rw [h', hl0], rfl, .inl hl0⟩
 ·refine ⟨some ⟨g, 0, none⟩, cap, h', rfl, .inr ⟨g, cur, rfl, h2, fun j hj => ?_⟩⟩
  rw [<- h6, List.getElem?_take, if_pos hj];simp
def PcsPost (l : List Int) (w : World) (e : Ending) (w' : World) : Prop :=
 ∃ a n c ps, e = .returned (.slice a n c) /\ df.Pz w' a n ps /\ (∀ p ∈ ps, df.Good p) /\ df.From l 0 ps l.length /\ n <= l.length /\ Below w.heap.size w w'
def Best (l : List Int) (i b a : Nat) : Prop := (b = 0 /\ a = 0) \/ (3 <= b /\ b <= 258 /\ i + b <= l.length /\ a < i /\ i - a <= 32768 /\ ∀ t, t < b -> l.getD (i + t) 0 = l.getD (a + t) 0)
structure PcS (base B b1 b3 : Nat) (pa : Option Addr) (n pc : Nat) (l : List Int) (w0 : World) (i : Nat) (es : List MapEntry) (v : Value) (ps : List df.Piece) (w : World) : Prop where
 map : PMap base B w l i es
 own : OwnP base w v ps
 box1 : w.heap[b1]? = some (.cells #[.slice pa n pc] 22 (0, 0))
 box3 : w.heap[b3]? = some (.cells #[.map (some B)] 172 (0, 0))
 below : Below base w0 w
theorem PcS.below' {base B b1 b3 : Nat} {pa : Option Addr} {n pc : Nat} {l : List Int} {w0 w w' : World} {i : Nat} {es : List MapEntry} {v : Value} {ps : List df.Piece} (h : PcS base B b1 b3 pa n pc l w0 i es v ps w) (hb : Below w.heap.size w w') : PcS base B b1 b3 pa n pc l w0 i es v ps w' :=
 ⟨h.map.below hb, ownsRow_below h.own hb, (hb.block _ (block_lt h.box1)).trans h.box1, (hb.block _ (block_lt h.box3)).trans h.box3, h.below.trans (hb.mono h.map.base)⟩
theorem PcS.push {base B b1 b3 : Nat} {pa : Option Addr} {n pc : Nat} {l : List Int} {w0 w w' : World} {i : Nat} {es : List MapEntry} {v v' : Value} {ps ps' : List df.Piece} (h : PcS base B b1 b3 pa n pc l w0 i es v ps w) (ho : OwnP base w' v' ps') (hg : w.grownBy w' v.ownBlock) : PcS base B b1 b3 pa n pc l w0 i es v' ps' w' := by
 have hob := own_piece h.own;refine ⟨h.map.grown hg (fun b e => ⟨_, _, (hob b e).2.2.choose_spec, by decide⟩), ho, grown_block hg h.box1 (fun e => ?_), grown_block hg h.box3 (fun e => ?_), h.below.grown hg h.map.base (fun r e => (hob r e).1)⟩
 ·obtain ⟨cur, hc⟩ := (hob b1 e.symm).2.2
  exact ne_of_types h.box1 hc (by decide) rfl
 ·obtain ⟨cur, hc⟩ := (hob b3 e.symm).2.2
  exact ne_of_types h.box3 hc (by decide) rfl
theorem PcS.note {base B b1 b3 : Nat} {pa : Option Addr} {n pc : Nat} {l : List Int} {w0 w w' : World} {i : Nat} {es : List MapEntry} {v : Value} {ps : List df.Piece} {e : Ending} (h : PcS base B b1 b3 pa n pc l w0 i es v ps w) (hn : NotePost base B l i w e w') : ∃ es', PcS base B b1 b3 pa n pc l w0 (i + 1) es' v ps w' := by
 obtain ⟨_, es', h1, h2, h3⟩ := hn;exact ⟨es', h1, h.own.note h3, h3 _ _ _ h.box1 (by decide), h3 _ _ _ h.box3 (by decide), h.below.trans h2⟩
theorem pieces_any (pa : Option Addr) (n pc : Nat) (l : List Int) (w : World) (h : Sl .u8 w pa n pc l) (hby : sm.Bytes l) (hn : n <= 8388608) :
  Calls Tryz.prog 50 #[.slice pa n pc] w (PcsPost l w) := by
 have hmm := @run_makeMap Tryz.prog;have HS := hd_ h;have HBY := hd_ hby;have hl := h.len;have HL := hd_ hl;have hfit := h.fits;clear h hby hl;go_enter Tryz.func50, Tryz.ntmps50
 go_upto_region 4 with (fail)
 obtain ⟨w3, hw3⟩ : ∃ z, ((w.alloc (Obj.cells #[Value.slice pa n pc] 22)).alloc (Obj.map #[] 0)).alloc (Obj.cells #[Value.map (some (w.heap.size + 1))] 172) = z := ⟨_, rfl⟩;obtain ⟨base, hbs⟩ : ∃ z, w.heap.size = z := ⟨_, rfl⟩;have ha1 := heap_alloc_new w (Obj.cells #[Value.slice pa n pc] 22);have hb1 : Below w.heap.size w (w.alloc (Obj.cells #[Value.slice pa n pc] 22)) := (Below.refl _ _).alloc (Nat.le_refl _) _;have hz1 : (w.alloc (Obj.cells #[Value.slice pa n pc] 22)).heap.size = w.heap.size + 1 := Array.size_push _;have ha2 := heap_alloc_new (w.alloc (Obj.cells #[Value.slice pa n pc] 22)) (Obj.map #[] 0);have hb2 : Below (w.alloc (Obj.cells #[Value.slice pa n pc] 22)).heap.size _ ((w.alloc (Obj.cells #[Value.slice pa n pc] 22)).alloc (Obj.map #[] 0)) := (Below.refl _ _).alloc (Nat.le_refl _) _;have hz2 : ((w.alloc (Obj.cells #[Value.slice pa n pc] 22)).alloc (Obj.map #[] 0)).heap.size = w.heap.size + 1 + 1 := (Array.size_push _).trans (by rw [hz1]);have ha3 := heap_alloc_new ((w.alloc (Obj.cells #[Value.slice pa n pc] 22)).alloc (Obj.map #[] 0)) (Obj.cells #[Value.map (some (w.heap.size + 1))] 172);have hb3 : Below ((w.alloc (Obj.cells #[Value.slice pa n pc] 22)).alloc (Obj.map #[] 0)).heap.size _ (((w.alloc (Obj.cells #[Value.slice pa n pc] 22)).alloc (Obj.map #[] 0)).alloc (Obj.cells #[Value.map (some (w.heap.size + 1))] 172)) := (Below.refl _ _).alloc (Nat.le_refl _) _;have e1 := (hb3.block _ (Nat.lt_of_lt_of_le (block_lt ha1) hb2.size)).trans ((hb2.block _ (block_lt ha1)).trans ha1);have e2 := (hb3.block _ (block_lt ha2)).trans ha2;rw [hz1] at e2;rw [hz2] at ha3;have hbw := (hb1.trans (hb2.mono hb1.size)).trans (hb3.mono (Nat.le_trans hb1.size hb2.size));rw [hw3, hbs] at e1 e2 ha3;rw [hw3] at hbw;rw [hw3, hbs];obtain ⟨B, hBe⟩ : ∃ z, base + 1 = z := ⟨_, rfl⟩;obtain ⟨b3, hb3e⟩ : ∃ z, base + 1 + 1 = z := ⟨_, rfl⟩;rw [hb3e] at ha3;rw [hBe] at e2 ha3;rw [hb3e, hBe];have HS0 : Hid (PcS base B base b3 pa n pc l w 0 [] (.slice none 0 0) [] w3) := hd_ ⟨⟨⟨#[], 0, e2, rfl, (fun _ h => by cases h), List.nodup_nil, List.nodup_nil⟩, (fun _ h => by cases h), (show Apart [] from fun i j x y h => by simp at h), by rw [<- hbs]; exact hbw.size⟩, World.ownsRow_nil _ _ _ _, e1, ha3, by rw [<- hbs]; exact hbw⟩;have HBB : Hid (base <= B /\ w.heap.size = base) := hd_ ⟨by omega, hbs⟩;clear hw3 ha1 hb1 hz1 ha2 hb2 hz2 ha3 hb3 e1 e2 hbw hBe hb3e hmm hbs;go_wp2_with fail
 go_loopg [4, 6] (n + 1) (fun gk s4 s6 wr => ∃ (i : Nat) (es : List MapEntry) (ps : List df.Piece), i <= n /\ gk = n + 1 - i /\ s6 = .int .i64 (i : Nat) /\ PcS base B base b3 pa n pc l w i es s4 ps wr /\ df.From l 0 ps i /\ (∀ p ∈ ps, df.Good p) /\ ps.length <= i)
 case atStart => exact ⟨0, [], [], Nat.zero_le _, rfl, by go_num, HS0.out, .nil, (fun _ h => by cases h), Nat.le_refl _⟩
 case round =>
  obtain ⟨i, es, ps, hi, hg, rfl, hst, hfr, hgd, hpl⟩ := hrel;have Hg := hd_ hg;have HST := hd_ hst;have HFR := hd_ hfr;have HGD := hd_ hgd;have HPL := hd_ hpl;have c1 := (cell_of_row wr base 0 _ _ (0, 0) hst.box1).trans (show _ = some (Value.slice pa n pc) from rfl);clear hg hst hfr hgd hpl HS0;by_cases hlt : i < n
  ·have hin : (i : Int) < (n : Int) := by omega
   go_upto_if 23 with (fail)
   go_cut [7, 8, 9, 11, 12] from 23 to 80 (fun s7 s8 _s9 _s11 _s12 wc => ∃ (b a : Nat), s7 = .int .i64 (b : Nat) /\ s8 = .int .i64 (a : Nat) /\ Best l i b a /\ Below wr.heap.size wr wc)
   case first =>
    by_cases hlt2 : i + 2 < n
    ·have hlt2' : (i : Int) + 2 < (n : Int) := by omega
     obtain ⟨bb, bo, rfl, hce⟩ := (HS.out.below (by have := HST.out.below; rw [<- HBB.out.2] at this; exact this)).cells (by omega);have k0 := hce i (by omega);have k1 := hce (i + 1) (by omega);have k2 := hce (i + 2) (by omega);have m0 := HBY.out _ (getD_memI (l := l) (i := i) (by rw [HL.out]; omega));have m1 := HBY.out _ (getD_memI (l := l) (i := i + 1) (by rw [HL.out]; omega));have m2 := HBY.out _ (getD_memI (l := l) (i := i + 2) (by rw [HL.out]; omega));obtain ⟨vl, ll, hlk, hown, hll, hpl⟩ := HST.out.map.look_all m0 m1 m2;obtain ⟨x0, hx0⟩ : ∃ z, l.getD i 0 = z := ⟨_, rfl⟩;obtain ⟨x1, hx1⟩ : ∃ z, l.getD (i + 1) 0 = z := ⟨_, rfl⟩;obtain ⟨x2, hx2⟩ : ∃ z, l.getD (i + 2) 0 = z := ⟨_, rfl⟩;rw [hx0] at k0 m0 hlk hpl;rw [hx1] at k1 m1 hlk hpl;rw [hx2] at k2 m2 hlk hpl;rw [show bo + (i + 1) = bo + i + 1 from rfl] at k1;rw [show bo + (i + 2) = bo + i + 2 from rfl] at k2;have hi3 : IntKind.i64.wrap ((i : Int) + 3) = ((i + 3 : Nat) : Int) := i64o (by omega) (by omega);obtain ⟨i3, hi3e⟩ : ∃ z, i + 3 = z := ⟨_, rfl⟩;rw [hi3e] at hi3;have g1 : (i : Int) <= (i3 : Int) := (by omega);have g2 : (i3 : Int) <= (pc : Int) := (by omega);have g3 : i3 - i = 3 := (by omega);have har : ∀ w, (Instr.arrayAt 173 (.slice (some ⟨bb, bo + i, none⟩) 3 (pc - i))).run Tryz.prog w = .ok (.pointer (some ⟨bb, bo + i, none⟩)) w := fun w => by
      simp [Instr.arrayAt, run_underlying Tryz.underlying173]
     have c3 := (cell_of_row wr b3 0 _ _ (0, 0) HST.out.box3).trans (show _ = some (Value.map (some B)) from rfl);have HX := hd_ (And.intro hx0 (And.intro hx1 hx2));have HC8 := hd_ hce;clear hce hx0 hx1 hx2 m0 m1 m2 hi3e;go_upto_region 8 with (fail)
     have hlk' : ∀ d : Nat, (Instr.lookup 172 (.map (some B)) (.agg #[.int .u8 x0, .int .u8 x1, .int .u8 x2]) false).run Tryz.prog (wr.drewN d) = .ok vl (wr.drewN d) := fun d => hlk _ rfl
     have HLT2 := hd_ hlt2
     rename_i hcnd _ _
     clear hlt2' hlt2 hcnd;go_quiet (fail)
     have hbq : Below wr.heap.size wr (wr.drewN nq) := below_drewN (Below.refl _ _) _;have c1q := keep_cell hbq c1;have hownq := hown.below hbq;have HBQ := hd_ hbq;have HSQ := hd_ (HST.out.below' hbq);clear c1 c3 k0 k1 k2 g1 g2 g3 har hlk hlk' hown hbq hi3;generalize wr.drewN nq = wq at *;obtain ⟨nl, hnl⟩ : ∃ z, ll.length = z := ⟨_, rfl⟩;obtain ⟨al, cl, evl, hl1, hl2, hl3⟩ := own_slice' hownq;rw [hnl] at evl hl1 hl3;subst evl;have hnli : nl <= i := (by rw [<- hnl]; exact hll);obtain ⟨k0, hk0⟩ : ∃ z, nl - 16 = z := ⟨_, rfl⟩;have e16 : IntKind.i64.wrap ((nl : Int) - 16) = (nl : Int) - 16 := i64i (by omega);have HLL := hd_ hpl;have HNL := hd_ hnl;have HCE := hd_ hl3;have HK0 := hd_ hk0;have hmax : max 0 ((nl : Int) - 16) = (k0 : Int) := (by omega);have hk0n : (k0 : Int) <= (nl : Int) := (by omega);have hk0n' : k0 <= nl := (by omega);clear hll hnl hpl hownq hk0;by_cases hcz : cl = 0
     ·subst hcz
      obtain rfl : nl = 0 := (by omega);obtain rfl : k0 = 0 := (by omega);clear hl3 hmax hk0n;go_upto_region 10 with (fail)
      refine wp_loop_rounds 1 ?_;rw [rounds_succ];go_wp2_with fail
      go_meet
      exact ⟨0, 0, rfl, rfl, .inl ⟨rfl, rfl⟩, HBQ.out⟩
     ·obtain ⟨lb, rfl, hlc⟩ : ∃ g, al = some ⟨g, 0, none⟩ /\ ∀ j x, ((nats ll).map (Value.int .i64))[j]? = some x -> wq.cell? ⟨g, j, none⟩ = some x := by
       rcases hl3 with h | ⟨g, h⟩
       ·exact absurd h.2 hcz
       ·exact ⟨g, h⟩
      have HLC : Hid (∀ j, j < nl -> wq.cell? ⟨lb, j, none⟩ = some (.int .i64 (ll.getD j 0 : Nat))) := hd_ (fun j hj => hlc j _ (by
       rw [List.getElem?_map, nats, List.getElem?_map, List.getElem?_eq_getElem (by rw [HNL.out]; exact hj), List.getD_eq_getElem?_getD, List.getElem?_eq_getElem (by rw [HNL.out]; exact hj)];rfl))
      have hck : ¬ cl = k0 := (by have := HK0.out; omega);obtain ⟨m, hm⟩ : ∃ z, nl - k0 = z := ⟨_, rfl⟩;have hm16 : m <= 16 := (by have := HK0.out; omega);have HM := hd_ hm;clear hl3 hlc hcz;go_wp2_with fail
      go_loopg [7, 8, 40] m (fun gk s7 s8 s40 wt => ∃ (j b a : Nat), j <= m /\ gk = m - j /\ s40 = .int .i64 (j : Nat) /\ s7 = .int .i64 (b : Nat) /\ s8 = .int .i64 (a : Nat) /\ Best l i b a /\ Below wq.heap.size wq wt)
      case atStart => exact ⟨0, 0, 0, Nat.zero_le _, rfl, by go_num, rfl, rfl, .inl ⟨rfl, rfl⟩, Below.refl _ _⟩
      case round =>
       obtain ⟨j, b, a, hj, hg2, rfl, rfl, rfl, hbest, hbt⟩ := hrel;have Hg2 := hd_ hg2;have HBE := hd_ hbest;have HBT := hd_ hbt;have c1t := keep_cell hbt c1q;clear hg2 hbest hbt;by_cases hltj : j < m
       ·have hpn : k0 + j < nl := by have := HM.out; omega
        have e0 := keep_cell HBT.out (HLC.out (k0 + j) hpn);have hpm := HLL.out _ (pf.getD_mem (ls := ll) (s := k0 + j) (by rw [HNL.out]; exact hpn));obtain ⟨p, hp⟩ : ∃ z, ll.getD (k0 + j) 0 = z := ⟨_, rfl⟩;rw [hp] at e0 hpm;have HPM := hd_ hpm;have hpi := hpm.1;have hbb : b <= 258 := (by rcases HBE.out with h | h; omega; omega);have es : IntKind.i64.wrap ((i : Int) - (p : Int)) = (i : Int) - (p : Int) := i64i (by omega);clear hp hpm;by_cases hfar : 32768 < i - p
        ·have hfar' : (32768 : Int) < (i : Int) - (p : Int) := by omega
         go_wp2_with fail
         go_roundg (m - (j + 1))
         case measure => have := Hg2.out; omega
         case rel => exact ⟨j + 1, b, a, by omega, rfl, by go_num, rfl, rfl, HBE.out, HBT.out⟩
        ·have hfar' : ¬ (32768 : Int) < (i : Int) - (p : Int) := by omega
         go_wp2_with fail
         go_loopg [12] 256 (fun gk s12 ww => ∃ q : Nat, 3 <= q /\ q <= 258 /\ i + q <= n /\ gk = 259 - q /\ s12 = .int .i64 (q : Nat) /\ (∀ t, t < q -> l.getD (i + t) 0 = l.getD (p + t) 0) /\ Below wq.heap.size wq ww)
         case atStart =>
          refine ⟨3, Nat.le_refl _, by decide, ?_, rfl, rfl, ?_, HBT.out⟩
          ·have := HLT2.out; omega
          ·obtain ⟨y0, y1, y2⟩ := HX.out
           obtain ⟨_, _, z0, z1, z2⟩ := HPM.out;intro t ht
           match t, ht with
           | 0, _ => exact y0.trans z0.symm
           | 1, _ => exact y1.trans z1.symm
           | 2, _ => exact y2.trans z2.symm
           | t + 3, ht => omega
         case round =>
          obtain ⟨q, hq1, hq2, hq3, hg3, rfl, hqe, hbw⟩ := hrel;have Hg3 := hd_ hg3;have HQ := hd_ hqe;have HBW := hd_ hbw;have c1w := keep_cell hbw c1q;clear hg3 hqe hbw;have w1 : IntKind.i64.wrap ((i : Int) + (q : Int)) = ((i + q : Nat) : Int) := i64o (by omega) (by omega);have w2 : IntKind.i64.wrap ((p : Int) + (q : Int)) = ((p + q : Nat) : Int) := i64o (by omega) (by omega);obtain ⟨iq, hiq⟩ : ∃ z, i + q = z := ⟨_, rfl⟩;obtain ⟨pq, hpq⟩ : ∃ z, p + q = z := ⟨_, rfl⟩;rw [hiq] at w1;rw [hpq] at w2;by_cases h1 : q < 258
          ·have h1' : decide ((q : Int) < 258) = true := by simp; omega
           by_cases h2 : iq < n
           ·have h2' : decide ((iq : Int) < (n : Int)) = true := by simp; omega
            have k1 := keep_cell HBW.out (keep_cell HBQ.out (HC8.out iq (by omega)));have k2 := keep_cell HBW.out (keep_cell HBQ.out (HC8.out pq (by omega)));obtain ⟨xa, hxa⟩ : ∃ z, l.getD iq 0 = z := ⟨_, rfl⟩;obtain ⟨xb, hxb⟩ : ∃ z, l.getD pq 0 = z := ⟨_, rfl⟩;rw [hxa] at k1;rw [hxb] at k2;have p1 : (iq : Int) < (n : Int) := (by omega);have p2 : (pq : Int) < (n : Int) := (by omega);have p3 : ¬ pc = iq := (by omega);have p4 : ¬ pc = pq := (by omega);by_cases h3 : xb = xa
            ·subst h3
             have HXE : Hid (l.getD (i + q) 0 = l.getD (p + q) 0) := hd_ (by rw [hiq, hpq, hxa, hxb]);have hiqn : i + q + 1 <= n := (by omega);clear hxa hxb hiq hpq;go_upto_region 14 with (fail)
             go_quiet (fail)
             have hbq2 : Below wr.heap.size wr (wr.drewN nq) := below_drewN (Below.refl _ _) _;have HBQ2 := hd_ (HBW.out.trans (hbq2.mono HBW.out.size));have wq1 : IntKind.i64.wrap ((q : Int) + 1) = ((q + 1 : Nat) : Int) := i64o (by omega) (by omega);obtain ⟨q2, hq2e⟩ : ∃ z, q + 1 = z := ⟨_, rfl⟩;rw [hq2e] at wq1;have HQ2 := hd_ hq2e;have hq23 : 3 <= q2 /\ q2 <= 258 /\ i + q2 <= n := (by omega);clear c1w hbq2 k1 k2 hq2e;generalize wr.drewN nq = wv at *;go_wp2_with fail
             go_roundg (259 - q2)
             case measure => have := Hg3.out; have := HQ2.out; omega
             case rel =>
              refine ⟨q2, hq23.1, hq23.2.1, hq23.2.2, rfl, by go_num, ?_, HBQ2.out⟩;intro t ht;have := HQ2.out;rcases Nat.lt_or_ge t q with h | h
              ·exact HQ.out t h
              ·obtain rfl : t = q := by omega
               exact HXE.out
            ·have h3' : decide (xb = xa) = false := by simp; exact h3
             clear hxa hxb hiq hpq;go_upto_region 14 with (fail)
             go_quiet (fail)
             have hbq2 : Below wr.heap.size wr (wr.drewN nq) := below_drewN (Below.refl _ _) _;have HBQ2 := hd_ (HBW.out.trans (hbq2.mono HBW.out.size));clear c1w hbq2 w1 w2;generalize wr.drewN nq = wv at *;by_cases hbig : b <= q
             ·have hbig' : (b : Int) <= (q : Int) := by omega
              go_wp2_with fail
              go_roundg (m - (j + 1))
              case measure => have := Hg2.out; omega
              case rel => exact ⟨j + 1, q, p, by omega, rfl, by go_num, rfl, rfl, .inr ⟨hq1, hq2, by rw [HL.out]; exact hq3, hpi, by omega, HQ.out⟩, HBQ2.out⟩
             ·have hbig' : ¬ (b : Int) <= (q : Int) := by omega
              go_wp2_with fail
              go_roundg (m - (j + 1))
              case measure => have := Hg2.out; omega
              case rel => exact ⟨j + 1, b, a, by omega, rfl, by go_num, rfl, rfl, HBE.out, HBQ2.out⟩
           ·have h2' : decide ((iq : Int) < (n : Int)) = false := by simp; omega
            clear hiq hpq;go_upto_region 14 with (fail)
            go_quiet (fail)
            have hbq2 : Below wr.heap.size wr (wr.drewN nq) := below_drewN (Below.refl _ _) _;have HBQ2 := hd_ (HBW.out.trans (hbq2.mono HBW.out.size));clear c1w hbq2 w1 w2;generalize wr.drewN nq = wv at *;by_cases hbig : b <= q
            ·have hbig' : (b : Int) <= (q : Int) := by omega
             go_wp2_with fail
             go_roundg (m - (j + 1))
             case measure => have := Hg2.out; omega
             case rel => exact ⟨j + 1, q, p, by omega, rfl, by go_num, rfl, rfl, .inr ⟨hq1, hq2, by rw [HL.out]; exact hq3, hpi, by omega, HQ.out⟩, HBQ2.out⟩
            ·have hbig' : ¬ (b : Int) <= (q : Int) := by omega
             go_wp2_with fail
             go_roundg (m - (j + 1))
             case measure => have := Hg2.out; omega
             case rel => exact ⟨j + 1, b, a, by omega, rfl, by go_num, rfl, rfl, HBE.out, HBQ2.out⟩
          ·have h1' : decide ((q : Int) < 258) = false := by simp; omega
           clear hiq hpq;go_upto_region 14 with (fail)
           go_quiet (fail)
           have hbq2 : Below wr.heap.size wr (wr.drewN nq) := below_drewN (Below.refl _ _) _;have HBQ2 := hd_ (HBW.out.trans (hbq2.mono HBW.out.size));clear c1w hbq2 w1 w2;generalize wr.drewN nq = wv at *;by_cases hbig : b <= q
           ·have hbig' : (b : Int) <= (q : Int) := by omega
            go_wp2_with fail
            go_roundg (m - (j + 1))
            case measure => have := Hg2.out; omega
            case rel => exact ⟨j + 1, q, p, by omega, rfl, by go_num, rfl, rfl, .inr ⟨hq1, hq2, by rw [HL.out]; exact hq3, hpi, by omega, HQ.out⟩, HBQ2.out⟩
           ·have hbig' : ¬ (b : Int) <= (q : Int) := by omega
            go_wp2_with fail
            go_roundg (m - (j + 1))
            case measure => have := Hg2.out; omega
            case rel => exact ⟨j + 1, b, a, by omega, rfl, by go_num, rfl, rfl, HBE.out, HBQ2.out⟩
       ·obtain rfl : j = m := by omega
        go_wp2_with fail
        go_meet
        exact ⟨b, a, rfl, rfl, HBE.out, HBQ.out.trans (HBT.out.mono HBQ.out.size)⟩
    ·have hlt2' : ¬ (i : Int) + 2 < (n : Int) := by omega
     go_wp2_with fail
     go_meet
     exact ⟨0, 0, rfl, rfl, .inl ⟨rfl, rfl⟩, Below.refl _ _⟩
   case rest =>
    obtain ⟨b, a, rfl, rfl, hbest, hbw⟩ := hcut;have HBE := hd_ hbest;have HSC := hd_ (HST.out.below' hbw);have c1c := keep_cell hbw c1;have hbwb := HSC.out.below;rw [<- HBB.out.2] at hbwb;obtain ⟨bb, bo, rfl, hce⟩ := (HS.out.below hbwb).cells (by omega);have k0 := hce i (by omega);have m0 := HBY.out _ (getD_memI (l := l) (i := i) (by rw [HL.out]; omega));have hfit2 : ¬ pc = i := (by omega);have wi1 : IntKind.i64.wrap ((i : Int) + 1) = ((i + 1 : Nat) : Int) := i64o (by omega) (by omega);clear hbest hbw hbwb hce c1 HST;by_cases hb0 : b < 3
    ·have hb0' : (b : Int) < 3 := by omega
     obtain ⟨x, hx⟩ : ∃ z, l.getD i 0 = z := ⟨_, rfl⟩;rw [hx] at k0 m0;obtain ⟨tl, htl⟩ : ∃ z, ps.length = z := ⟨_, rfl⟩;obtain ⟨a4, c4, e4⟩ : ∃ a c, u4 = .slice a tl c := by
      obtain ⟨a', c', e', _⟩ := own_pz HSC.out.own;exact ⟨a', c', by rw [<- htl]; exact e'⟩
     subst e4;have HX := hd_ hx;have HB4 := hd_ ((Below.refl wc.heap.size wc).alloc (Nat.le_refl _) (.cells #[.int .u8 x, .int .i64 0, .int .i64 0] 176));have HG4 := hd_ (heap_alloc_new wc (.cells #[.int .u8 x, .int .i64 0, .int .i64 0] 176 (0, 0)));have HS4 := hd_ (HSC.out.below' HB4.out);have HTL : Hid (ps.length <= 1099511627776) := hd_ (by have := HPL.out; omega);clear hx htl;go_upto_region 21 with (at_builtin; go_must (refine wpList_of_append rfl (.tmp 83) (.tmp 89) 107 107 rfl (run_append_p _ _ base (.slice a4 tl c4) ps ⟨0, 0, x⟩ HS4.out.own HTL.out HS4.out.map.base _ HG4.out) ?_; rintro v9 w9 ⟨ho9, hg9⟩; have HO9 := hd_ ho9; have HG9 := hd_ hg9; clear ho9 hg9))
     have hs9 := HS4.out.push HO9.out HG9.out;have HS9 := hd_ hs9;have hbb9 := hs9.below;rw [<- HBB.out.2] at hbb9;have NOTE := hd_ (note_any base B base b3 _ n pc l i es w9 hs9.map HBB.out.1 hs9.box1 hs9.box3 (HS.out.below hbb9) HBY.out hlt (by omega));clear hs9 hbb9 k0 c1c;go_wp2_with fail
     refine NOTE.out.mono ?_;rintro e w10 hn;obtain ⟨r, rfl⟩ := hn.1;obtain ⟨es', hs10⟩ := HS9.out.note hn;have HS10 := hd_ hs10;clear hn hs10 NOTE;go_wp2_with fail
     go_roundg (n + 1 - (i + 1))
     case measure => have := Hg.out; omega
     case rel =>
      refine ⟨i + 1, es', ps ++ [⟨0, 0, x⟩], by omega, rfl, by go_num, HS10.out, ?_, ?_, by rw [List.length_append]; have := HPL.out; simp; omega⟩
      ·refine HFR.out.trans ?_
       rw [<- HX.out];exact .lit (by rw [HL.out]; omega) .nil
      ·intro p hp
       rcases List.mem_append.1 hp with h | h
       ·exact HGD.out p h
       ·obtain rfl := List.mem_singleton.1 h
        exact ⟨m0, fun h => absurd rfl h⟩
    ·have hb0' : ¬ (b : Int) < 3 := by omega
     obtain ⟨q1, q2, q3, q4, q5, q6⟩ : 3 <= b /\ b <= 258 /\ i + b <= l.length /\ a < i /\ i - a <= 32768 /\ ∀ t, t < b -> l.getD (i + t) 0 = l.getD (a + t) 0 := by
      rcases HBE.out with h | h
      ·omega
      ·exact h
     rw [HL.out] at q3;have HQ6 := hd_ q6;have wia : IntKind.i64.wrap ((i : Int) - (a : Int)) = ((i - a : Nat) : Int) := i64o (by omega) (by omega);obtain ⟨k, hk⟩ : ∃ z, i - a = z := ⟨_, rfl⟩;rw [hk] at wia;have hka : i = a + k := (by omega);have HKA := hd_ hka;have hk1 : 1 <= k /\ k <= 32768 /\ k <= i := (by omega);obtain ⟨tl, htl⟩ : ∃ z, ps.length = z := ⟨_, rfl⟩;obtain ⟨a4, c4, e4⟩ : ∃ a c, u4 = .slice a tl c := by
      obtain ⟨a', c', e', _⟩ := own_pz HSC.out.own;exact ⟨a', c', by rw [<- htl]; exact e'⟩
     subst e4;have HB4 := hd_ ((Below.refl wc.heap.size wc).alloc (Nat.le_refl _) (.cells #[.int .u8 0, .int .i64 (b : Nat), .int .i64 (k : Nat)] 176));have HG4 := hd_ (heap_alloc_new wc (.cells #[.int .u8 0, .int .i64 (b : Nat), .int .i64 (k : Nat)] 176 (0, 0)));have HS4 := hd_ (HSC.out.below' HB4.out);have HTL : Hid (ps.length <= 1099511627776) := hd_ (by have := HPL.out; omega);clear q6 hk hka htl k0 c1c m0 hfit2 wi1;go_upto_region 24 with (at_builtin; go_must (refine wpList_of_append rfl (.tmp 96) (.tmp 102) 107 107 rfl (run_append_p _ _ base (.slice a4 tl c4) ps ⟨b, k, 0⟩ HS4.out.own HTL.out HS4.out.map.base _ HG4.out) ?_; rintro v9 w9 ⟨ho9, hg9⟩; have HO9 := hd_ ho9; have HG9 := hd_ hg9; clear ho9 hg9))
     have HS9 := hd_ (HS4.out.push HO9.out HG9.out);clear wia HS4 HSC;go_wp2_with fail
     go_loopg [6, 105] b (fun gk s6 s105 wr => ∃ (j : Nat) (es' : List MapEntry), j <= b /\ gk = b - j /\ s6 = .int .i64 (i + j : Nat) /\ s105 = .int .i64 (j : Nat) /\ PcS base B base b3 (some ⟨bb, bo, none⟩) n pc l w (i + j) es' v9 (ps ++ [⟨b, k, 0⟩]) wr)
     case atStart => exact ⟨0, es, Nat.zero_le _, rfl, rfl, by go_num, HS9.out⟩
     case round =>
      obtain ⟨j, es', hj, hg2, rfl, rfl, hs⟩ := hrel;have Hg2 := hd_ hg2;have HSJ := hd_ hs;have hbbj := hs.below;rw [<- HBB.out.2] at hbbj;obtain ⟨y, hy⟩ : ∃ z, i + j = z := ⟨_, rfl⟩;rw [hy] at hs;by_cases hltj : j < b
      ·have NOTE := hd_ (note_any base B base b3 _ n pc l y es' _ hs.map HBB.out.1 hs.box1 hs.box3 (HS.out.below hbbj) HBY.out (by omega) (by omega))
       have HSY := hd_ hs;have wy1 : IntKind.i64.wrap ((y : Int) + 1) = ((y + 1 : Nat) : Int) := i64o (by omega) (by omega);have wj1 : IntKind.i64.wrap ((j : Int) + 1) = ((j + 1 : Nat) : Int) := i64o (by omega) (by omega);obtain ⟨y1, hy1⟩ : ∃ z, y + 1 = z := ⟨_, rfl⟩;obtain ⟨j1, hj1⟩ : ∃ z, j + 1 = z := ⟨_, rfl⟩;rw [hy1] at wy1;rw [hj1] at wj1;have HY1 := hd_ hy1;have HYJ : Hid (y1 = i + j1) := hd_ (by omega);have HJ1 := hd_ hj1;have hj1b : j1 <= b := (by omega);have hjb : (j : Int) < (b : Int) := (by omega);rw [hy];clear hs hbbj hy hy1 hj1;go_wp2_with fail
       refine NOTE.out.mono ?_;rintro e w10 hn;obtain ⟨r, rfl⟩ := hn.1;obtain ⟨es2, hs10⟩ := HSY.out.note hn;rw [HY1.out] at hs10;have HS10 := hd_ hs10;clear hn hs10 NOTE;go_wp2_with fail
       go_roundg (b - j1)
       case measure => have := Hg2.out; have := HJ1.out; omega
       case rel =>
        rw [HYJ.out] at HS10;exact ⟨j1, es2, hj1b, rfl, by rw [HYJ.out], by go_num, HS10.out⟩
      ·obtain rfl : j = b := by omega
       rw [hy];have HYE := hd_ hy;clear hs hbbj hy;go_wp2_with fail
       go_roundg (n + 1 - y)
       case measure => have := Hg.out; have := HYE.out; omega
       case rel =>
        refine ⟨y, es', ps ++ [⟨j, k, 0⟩], by have := HYE.out; omega, rfl, rfl, by rw [<- HYE.out]; exact HSJ.out, ?_, ?_, by rw [List.length_append]; have := HPL.out; have := HYE.out; simp; omega⟩
        ·refine HFR.out.trans ?_
         refine .mat q1 q2 hk1.1 hk1.2.2 hk1.2.1 (by rw [HL.out]; exact q3) (fun m hm => ?_) (by rw [HYE.out]; exact .nil);rw [HQ6.out m hm];have := HKA.out;rw [show i - k + m = a + m by omega]
        ·intro p hp
         rcases List.mem_append.1 hp with h | h
         ·exact HGD.out p h
         ·obtain rfl := List.mem_singleton.1 h
          exact ⟨⟨Int.le_refl 0, (show (0 : Int) < 256 by decide)⟩, fun _ => ⟨q1, q2, hk1.1, hk1.2.1⟩⟩
  ·obtain rfl : i = n := by omega
   obtain ⟨tl, htl⟩ : ∃ z, ps.length = z := ⟨_, rfl⟩;obtain ⟨a4, c4, e4, hpz⟩ : ∃ a c, u4 = .slice a tl c /\ df.Pz wr a tl ps := by
    obtain ⟨a', c', e', h'⟩ := own_pz HST.out.own;rw [htl] at e' h';exact ⟨a', c', e', h'⟩
   subst e4;have HPZ := hd_ hpz;have HTL := hd_ htl;clear hpz htl Hg;go_wp2_with fail
   go_ret
   have hb9 := HST.out.below;rw [<- HBB.out.2] at hb9;exact ⟨a4, tl, c4, ps, rfl, HPZ.out, HGD.out, by rw [HL.out]; exact HFR.out, by rw [<- HTL.out, HL.out]; exact HPL.out, hb9⟩
end Go.Proofs.YthpckmcgbmfmcaaGreatDoor
