/- Texts of this claim, joined. -/
import Derived.Test.YthpckmcgbmfmcaaGreatDoorM29
set_option maxRecDepth 100000
set_option maxHeartbeats 12800000
namespace Go.Proofs.YthpckmcgbmfmcaaGreatDoor
open Go.RowKit Go.Sort
namespace df
def litS (p : Piece) : Nat := if p.n = 0 then p.b.toNat else lenS p.n
def cl (ps : List Piece) (s : Nat) : Nat := (if s = 256 then 1 else 0) + (ps.map litS).count s
def cd (ps : List Piece) (s : Nat) : Nat := ((ps.filter fun p => decide (p.n ≠ 0)).map fun p => disS p.back).count s
theorem cl_snoc (ps : List Piece) (p : Piece) (s : Nat) : cl (ps ++ [p]) s = cl ps s + if s = litS p then 1 else 0 := by
 unfold cl;rw [List.map_append, List.count_append, List.map_singleton, List.count_singleton];by_cases h : s = litS p
 ·rw [if_pos h, h]
  simp;omega
 ·rw [if_neg h]
  simp [Ne.symm h]
theorem cd_lit (ps : List Piece) (p : Piece) (s : Nat) (h : p.n = 0) : cd (ps ++ [p]) s = cd ps s := by
 unfold cd;rw [List.filter_append, List.map_append, List.count_append];simp [h]
theorem cd_rep (ps : List Piece) (p : Piece) (s : Nat) (h : p.n ≠ 0) : cd (ps ++ [p]) s = cd ps s + if s = disS p.back then 1 else 0 := by
 unfold cd;rw [List.filter_append, List.map_append, List.count_append];have e : List.filter (fun p => decide (p.n ≠ 0)) [p] = [p] := by simp [h]
 rw [e, List.map_singleton, List.count_singleton];by_cases h : s = disS p.back
 ·rw [if_pos h, h]
  simp
 ·rw [if_neg h]
  simp [Ne.symm h]
theorem cl_le (ps : List Piece) (s : Nat) : cl ps s <= 1 + ps.length := by
 unfold cl;have h := List.count_le_length (a := s) (l := ps.map litS);rw [List.length_map] at h;split <;> omega
theorem cd_le (ps : List Piece) (s : Nat) : cd ps s <= ps.length := by
 unfold cd;have h := List.count_le_length (a := s) (l := (ps.filter fun p => decide (p.n ≠ 0)).map fun p => disS p.back);rw [List.length_map] at h;exact Nat.le_trans h (List.length_filter_le _ _)
theorem Pz.grown {w w' : World} {ob : Option Nat} (hg : w.grownBy w' ob) (hob : ∀ b, ob = some b -> ∃ cur, w.heap[b]? = some (.cells cur 3 (0, 0))) {a : Option Addr} {n : Nat} {ps : List Piece} (h : Pz w a n ps) : Pz w' a n ps := by
 refine ⟨h.len, ?_⟩;rcases h.at' with h1 | ⟨b, cur, e, hc, hr⟩
 ·exact .inl h1
 ·refine .inr ⟨b, cur, e, (hg.block b (block_lt hc) ?_).trans hc, hr⟩
  intro e2;obtain ⟨cur2, h2⟩ := hob b e2.symm;exact ne_of_types hc h2 (by decide) rfl
def rowOf (f : Nat -> Nat) (m : Nat) : List Nat := (List.range m).map f
theorem rowOf_length (f : Nat -> Nat) (m : Nat) : (rowOf f m).length = m := by simp [rowOf]
theorem rowOf_get (f : Nat -> Nat) {m i : Nat} (h : i < m) : (rowOf f m).getD i 0 = f i := by simp [rowOf, List.getD_eq_getElem?_getD, h]
theorem rowOf_le (f : Nat -> Nat) {m k : Nat} (h : ∀ i, f i <= k) : ∀ x ∈ rowOf f m, x <= k := by
 intro x hx;obtain ⟨i, _, rfl⟩ := List.mem_map.1 hx;exact h i
structure Made (L : List Nat) : Prop where
 ok : pf.Ok L
 le : ∀ l ∈ L, l <= 15
 kraft : pf.kraft L = 65536 \/ (pf.nz L = 1 /\ pf.one L = true) \/ pf.nz L = 0
end df
def CntPost (ps : List df.Piece) (w : World) (e : Ending) (w' : World) : Prop :=
 ∃ b1 c1 b2 c2 L D, e = .returned (.tuple #[.slice (some ⟨b1, 0, none⟩) 286 c1, .slice (some ⟨b2, 0, none⟩) 30 c2]) /\ In w' b1 286 c1 L /\ In w' b2 30 c2 D /\ w.heap.size <= b1 /\ w.heap.size <= b2 /\ df.Made L /\ df.Made D /\ (∀ p ∈ ps, df.Covers L D p) /\ 1 <= L.getD 256 0 /\ Below w.heap.size w w'
theorem counted_any (pa : Option Addr) (n pc : Nat) (ps : List df.Piece) (w : World) (hp : df.Pz w pa n ps) (hg : ∀ p ∈ ps, df.Good p) (hn : n <= 16777216) :
  Calls Tryz.prog 107 #[.slice pa n pc] w (CntPost ps w) := by
 have m1 : ∀ w, (Instr.makeSlice 59 (.int .i64 286) (.int .i64 286)).run Tryz.prog w = .ok (.slice (some ⟨w.heap.size, 0, none⟩) 286 286) (w.alloc (.cells (fRow .i64 (fun _ => 0) 286) 3)) := make_i64 286 (by decide);have m2 : ∀ w, (Instr.makeSlice 59 (.int .i64 30) (.int .i64 30)).run Tryz.prog w = .ok (.slice (some ⟨w.heap.size, 0, none⟩) 30 30) (w.alloc (.cells (fRow .i64 (fun _ => 0) 30) 3)) := make_i64 30 (by decide);have HP := hd_ hp;have HG := hd_ hg;have hpl := hp.len;have HPL := hd_ hpl;clear hp hg hpl;go_enter Tryz.func107, Tryz.ntmps107
 go_upto_region 1 with (fail)
 go_cut [4, 5] from 15 to 73 (fun s4 s5 wx => ∃ a b, a ≠ b /\ s4 = .slice (some ⟨a, 0, none⟩) 286 286 /\ s5 = .slice (some ⟨b, 0, none⟩) 30 30 /\ w.heap.size <= a /\ w.heap.size <= b /\ wx.heap[a]? = some (.cells (fRow .i64 (fun _ => 0) 286) 3 (0, 0)) /\ wx.heap[b]? = some (.cells (fRow .i64 (fun _ => 0) 30) 3 (0, 0)) /\ Below w.heap.size w wx)
 case first =>
  go_region
  all_goals go_wp2_with fail
  all_goals go_meet
  ·obtain ⟨q0, q1⟩ := heap2 w (.cells (fRow .i64 (fun _ => 0) 286) 3) (.cells (fRow .i64 (fun _ => 0) 30) 3)
   exact ⟨w.heap.size, w.heap.size + 1, by omega, rfl, rfl, Nat.le_refl _, Nat.le_succ _, q0, q1, Below.drew (((Below.refl w.heap.size w).alloc (Nat.le_refl _) _).alloc (by simp) _)⟩
  ·obtain ⟨q0, q1⟩ := heap2 w (.cells (fRow .i64 (fun _ => 0) 30) 3) (.cells (fRow .i64 (fun _ => 0) 286) 3)
   exact ⟨w.heap.size + 1, w.heap.size, by omega, rfl, rfl, Nat.le_succ _, Nat.le_refl _, q1, q0, Below.drew (((Below.refl w.heap.size w).alloc (Nat.le_refl _) _).alloc (by simp) _)⟩
 case rest =>
  obtain ⟨a, b, hne, rfl, rfl, ha, hb, hqa, hqb, hbw⟩ := hcut;have HPX := hd_ (HP.out.below hbw);have c0 := fRow_cell (j := 256) hqa (by decide);have f0 := frozen_of_row wc a 256 _ _ hqa;have HA := hd_ (fRow_store (j := 256) hqa (df.cl []) 1 rfl (fun j _ hj => by unfold df.cl; rw [if_neg hj]; rfl));have HB := hd_ (grown_block (grownBy_setCell3 wc a 256 (.int .i64 ((1 : Nat) : Int))) hqb (fun e => hne (Option.some.inj e).symm));have HPS := hd_ (df.Pz.grown (grownBy_setCell3 wc a 256 (.int .i64 ((1 : Nat) : Int))) (fun g e => by obtain rfl := Option.some.inj e; exact ⟨_, hqa⟩) HPX.out);have HBW := hd_ (hbw.setCell (p := ⟨a, 256, none⟩) ha (.int .i64 ((1 : Nat) : Int)));have HNE := hd_ hne;have HAB := hd_ (And.intro ha hb);clear hne ha hb hqa hqb hbw m1 m2 HP HPX;go_wp2_with fail
  go_loopg [21] n (fun gk s21 wr => ∃ i : Nat, i <= n /\ gk = n - i /\ s21 = .int .i64 (i : Nat) /\ wr.heap[a]? = some (.cells (fRow .i64 (df.cl (ps.take i)) 286) 3 (0, 0)) /\ wr.heap[b]? = some (.cells (fRow .i64 (df.cd (ps.take i)) 30) 3 (0, 0)) /\ df.Pz wr pa n ps /\ Below w.heap.size w wr)
  case atStart => exact ⟨0, Nat.zero_le _, rfl, by go_num, HA.out, HB.out, HPS.out, HBW.out⟩
  case round =>
   obtain ⟨i, hi, hg, rfl, hqa, hqb, hpz, hbw⟩ := hrel;have Hg := hd_ hg;have HA1 := hd_ hqa;have HB1 := hd_ hqb;have HPZ := hd_ hpz;have HBW1 := hd_ hbw;clear hg hqa hqb hpz hbw HA HB HPS HBW;by_cases hlt : i < n
   ·obtain ⟨p, hpe⟩ : ∃ p, ps[i]? = some p := ⟨_, List.getElem?_eq_getElem (by rw [HPL.out]; exact hlt)⟩
    obtain ⟨pb, rfl, c0, c1, c2⟩ := HPZ.out.cells hpe;have hgp := HG.out p (List.mem_of_getElem? hpe);have HST := hd_ (take_snocP hpe);obtain ⟨bn, hbn⟩ : ∃ bn : Nat, p.b.toNat = bn := ⟨_, rfl⟩;have hpb : p.b = (bn : Int) := (by have := hgp.1; omega);have hbn2 : bn < 256 := (by have := hgp.1; omega);have hgm := hgp.2;have HSY : Hid (df.litS p = if p.n = 0 then bn else df.lenS p.n) := hd_ (by unfold df.litS; rw [hbn]);obtain ⟨nn, hnn⟩ : ∃ x, p.n = x := ⟨_, rfl⟩;obtain ⟨nk, hnk⟩ : ∃ x, p.back = x := ⟨_, rfl⟩;rw [hpb] at c0;rw [hnn] at c1 HSY hgm;rw [hnk] at c2 hgm;have HNN := hd_ hnn;have HNK := hd_ hnk;have hin1 : (i : Int) < (n : Int) := (by omega);have hcl := df.cl_le (ps.take i);have hcd := df.cd_le (ps.take i);rw [List.length_take] at hcl hcd;have HCL : Hid (∀ s, df.cl (ps.take i) s <= 16777217) := hd_ (fun s => by have := hcl s; omega);have HCD : Hid (∀ s, df.cd (ps.take i) s <= 16777217) := hd_ (fun s => by have := hcd s; omega);clear hpe hgp hbn hpb hnn hnk hcl hcd;go_upto_region 6 with (fail)
    have hba : Below wr.heap.size wr (wr.alloc (.cells #[.int .u8 (bn : Nat), .int .i64 (nn : Nat), .int .i64 (nk : Nat)] 176)) := (Below.refl _ _).alloc (Nat.le_refl _) _;have hna := heap_alloc_new wr (.cells #[.int .u8 (bn : Nat), .int .i64 (nn : Nat), .int .i64 (nk : Nat)] 176 (0, 0));obtain ⟨wa, hwa⟩ : ∃ z, wr.alloc (.cells #[.int .u8 (bn : Nat), .int .i64 (nn : Nat), .int .i64 (nk : Nat)] 176) = z := ⟨_, rfl⟩;obtain ⟨nb, hnb⟩ : ∃ z, wr.heap.size = z := ⟨_, rfl⟩;rw [hwa] at hba hna;rw [hnb] at hna;rw [hwa, hnb];have d0 := (cr_ _ 0 hna (Value.int .u8 (bn : Nat)) rfl);have d1 := (cr_ _ 1 hna (Value.int .i64 (nn : Nat)) rfl);have HNA := hd_ hna;have HA2 := hd_ ((hba.block _ (block_lt HA1.out)).trans HA1.out);have HB2 := hd_ ((hba.block _ (block_lt HB1.out)).trans HB1.out);have HPZ2 := hd_ (HPZ.out.below hba);have HBW2 := hd_ (HBW1.out.trans (hba.mono HBW1.out.size));clear hba hna hwa hnb c0 c1 c2 HA1 HB1 HPZ HBW1;by_cases hnz : nn = 0
    ·subst hnz
     rw [if_pos rfl] at HSY;have a0 := fRow_cell (j := bn) HA2.out (by omega);have fa := frozen_of_row wa a bn _ _ HA2.out;have hx1 := HCL.out bn;obtain ⟨x, hx⟩ : ∃ z, df.cl (ps.take i) bn = z := ⟨_, rfl⟩;rw [hx] at a0 hx1;have e1 : IntKind.i64.wrap ((x : Int) + 1) = ((x + 1 : Nat) : Int) := i64o (by omega) (by omega);obtain ⟨y, hy⟩ : ∃ z, x + 1 = z := ⟨_, rfl⟩;rw [hy] at e1;have HA3 := hd_ (fRow_store (j := bn) HA2.out (df.cl (ps.take (i + 1))) y (by rw [HST.out, df.cl_snoc, HSY.out, if_pos rfl, hx]; exact hy) (fun j _ hj => by rw [HST.out, df.cl_snoc, HSY.out, if_neg hj]; rfl));have HB3 := hd_ (grown_block (grownBy_setCell3 wa a bn (.int .i64 (y : Nat))) HB2.out (fun e => HNE.out (Option.some.inj e).symm));have HPZ3 := hd_ (df.Pz.grown (grownBy_setCell3 wa a bn (.int .i64 (y : Nat))) (fun g e => by obtain rfl := Option.some.inj e; exact ⟨_, HA2.out⟩) HPZ2.out);have HBW3 := hd_ (HBW2.out.setCell (p := ⟨a, bn, none⟩) HAB.out.1 (.int .i64 (y : Nat)));have hb286 : (bn : Int) < 286 := (by omega);have hb286' : ¬ bn = 286 := (by omega);clear hx hy hx1 HA2 HPZ2 HBW2 hgm;go_wp2_with fail
     go_roundg (n - (i + 1))
     case measure => have := Hg.out; omega
     case rel =>
      refine ⟨i + 1, by omega, rfl, by go_num, HA3.out, ?_, HPZ3.out, HBW3.out⟩;rw [fRow_congr .i64 (f := df.cd (ps.take i)) (g := df.cd (ps.take (i + 1))) (fun j _ => by rw [HST.out, df.cd_lit _ _ _ HNN.out])];exact HB3.out
    ·rw [if_neg hnz] at HSY
     obtain ⟨g1, g2, g3, g4⟩ := hgm hnz;have hlr := df.lenS_range g2;have hdr := df.disS_range g4 g3;have CL := hd_ (length_any wa nn g1 g2);have CD := hd_ (fun w => distance_any w nk g3 g4);obtain ⟨ls, hls⟩ : ∃ z, df.lenS nn = z := ⟨_, rfl⟩;obtain ⟨ds, hds⟩ : ∃ z, df.disS nk = z := ⟨_, rfl⟩;rw [hls] at HSY hlr CL;rw [hds] at hdr CD;have HDS : Hid (df.disS p.back = ds) := hd_ (by rw [HNK.out]; exact hds);clear hgm hls hds;go_wp2_with fail
     refine CL.out.mono ?_;rintro e w2 ⟨rfl, hb2⟩;have HA2' := hd_ ((hb2.block _ (block_lt HA2.out)).trans HA2.out);have HB2' := hd_ ((hb2.block _ (block_lt HB2.out)).trans HB2.out);have HPZ2' := hd_ (HPZ2.out.below hb2);have HBW2' := hd_ (HBW2.out.trans (hb2.mono HBW2.out.size));have HNA2 := hd_ ((hb2.block _ (block_lt HNA.out)).trans HNA.out);clear hb2 CL HA2 HB2 HPZ2 HBW2 d0 d1;have hne2 : nb ≠ a := fun e => ne_of_types HNA2.out HA2'.out (by decide) e
     have a0 := fRow_cell (j := ls) HA2'.out (by omega);have fa := frozen_of_row w2 a ls _ _ HA2'.out;have hx1 := HCL.out ls;obtain ⟨x, hx⟩ : ∃ z, df.cl (ps.take i) ls = z := ⟨_, rfl⟩;rw [hx] at a0 hx1;have e1 : IntKind.i64.wrap ((x : Int) + 1) = ((x + 1 : Nat) : Int) := i64o (by omega) (by omega);obtain ⟨y, hy⟩ : ∃ z, x + 1 = z := ⟨_, rfl⟩;rw [hy] at e1;have HA3 := hd_ (fRow_store (j := ls) HA2'.out (df.cl (ps.take (i + 1))) y (by rw [HST.out, df.cl_snoc, HSY.out, if_pos rfl, hx]; exact hy) (fun j _ hj => by rw [HST.out, df.cl_snoc, HSY.out, if_neg hj]; rfl));have HB3 := hd_ (grown_block (grownBy_setCell3 w2 a ls (.int .i64 (y : Nat))) HB2'.out (fun e => HNE.out (Option.some.inj e).symm));have HPZ3 := hd_ (df.Pz.grown (grownBy_setCell3 w2 a ls (.int .i64 (y : Nat))) (fun g e => by obtain rfl := Option.some.inj e; exact ⟨_, HA2'.out⟩) HPZ2'.out);have HBW3 := hd_ (HBW2'.out.setCell (p := ⟨a, ls, none⟩) HAB.out.1 (.int .i64 (y : Nat)));have hna3 := grown_block (grownBy_setCell3 w2 a ls (.int .i64 (y : Nat))) HNA2.out (fun e => hne2 (Option.some.inj e));have d2 := (cr_ _ 2 hna3 (Value.int .i64 (nk : Nat)) rfl);have hb286 : (ls : Int) < 286 := (by omega);have hb286' : ¬ ls = 286 := (by omega);clear hx hy hx1 HA2' HPZ2' HBW2' hne2 hna3 HNA2 HNA;go_wp2_with fail
     refine (CD.out _).mono ?_;rintro e w4 ⟨rfl, hb4⟩;have HA4 := hd_ ((hb4.block _ (block_lt HA3.out)).trans HA3.out);have HB4 := hd_ ((hb4.block _ (block_lt HB3.out)).trans HB3.out);have HPZ4 := hd_ (HPZ3.out.below hb4);have HBW4 := hd_ (HBW3.out.trans (hb4.mono HBW3.out.size));clear hb4 CD HA3 HB3 HPZ3 HBW3 d2 a0 fa e1;have b0 := fRow_cell (j := ds) HB4.out (by omega);have fb := frozen_of_row w4 b ds _ _ HB4.out;have hx1 := HCD.out ds;obtain ⟨x2, hx⟩ : ∃ z, df.cd (ps.take i) ds = z := ⟨_, rfl⟩;rw [hx] at b0 hx1;have e1 : IntKind.i64.wrap ((x2 : Int) + 1) = ((x2 + 1 : Nat) : Int) := i64o (by omega) (by omega);obtain ⟨y2, hy⟩ : ∃ z, x2 + 1 = z := ⟨_, rfl⟩;rw [hy] at e1;have hpn : p.n ≠ 0 := (by rw [HNN.out]; exact hnz);have HB5 := hd_ (fRow_store (j := ds) HB4.out (df.cd (ps.take (i + 1))) y2 (by rw [HST.out, df.cd_rep _ _ _ hpn, HDS.out, if_pos rfl, hx]; exact hy) (fun j _ hj => by rw [HST.out, df.cd_rep _ _ _ hpn, HDS.out, if_neg hj]; rfl));have HA5 := hd_ (grown_block (grownBy_setCell3 w4 b ds (.int .i64 (y2 : Nat))) HA4.out (fun e => HNE.out (Option.some.inj e)));have HPZ5 := hd_ (df.Pz.grown (grownBy_setCell3 w4 b ds (.int .i64 (y2 : Nat))) (fun g e => by obtain rfl := Option.some.inj e; exact ⟨_, HB4.out⟩) HPZ4.out);have HBW5 := hd_ (HBW4.out.setCell (p := ⟨b, ds, none⟩) HAB.out.2 (.int .i64 (y2 : Nat)));have hd30 : (ds : Int) < 30 := (by omega);have hd30' : ¬ ds = 30 := (by omega);clear hx hy hx1 hpn HA4 HB4 HPZ4 HBW4;go_wp2_with fail
     go_roundg (n - (i + 1))
     case measure => have := Hg.out; omega
     case rel => exact ⟨i + 1, by omega, rfl, by go_num, HA5.out, HB5.out, HPZ5.out, HBW5.out⟩
   ·obtain rfl : i = n := by omega
    have htk : ps.take i = ps := List.take_of_length_le (by rw [HPL.out]; exact Nat.le_refl _);rw [htk] at HA1 HB1;have hcl := df.cl_le ps;have hcd := df.cd_le ps;rw [HPL.out] at hcl hcd;have hleL : ∀ x ∈ df.rowOf (df.cl ps) 286, x <= 1073741824 := df.rowOf_le _ (fun j => by have := hcl j; omega);have hleD : ∀ x ∈ df.rowOf (df.cd ps) 30, x <= 1073741824 := df.rowOf_le _ (fun j => by have := hcd j; omega);have slA : ∀ w', Below wr.heap.size wr w' -> Sl .i64 w' (some ⟨a, 0, none⟩) 286 286 (nats (df.rowOf (df.cl ps) 286)) := fun w' hb => fRow_sl ((hb.block _ (block_lt HA1.out)).trans HA1.out) (df.rowOf_length _ _) (fun j hj => (df.rowOf_get _ hj).symm) (by decide) (fun x hx => Nat.le_trans (hleL x hx) (by decide))
    have slB : ∀ w', Below wr.heap.size wr w' -> Sl .i64 w' (some ⟨b, 0, none⟩) 30 30 (nats (df.rowOf (df.cd ps) 30)) := fun w' hb => fRow_sl ((hb.block _ (block_lt HB1.out)).trans HB1.out) (df.rowOf_length _ _) (fun j hj => (df.rowOf_get _ hj).symm) (by decide) (fun x hx => Nat.le_trans (hleD x hx) (by decide))
    have BA := hd_ (build_any _ 286 286 _ 15 wr (slA wr (Below.refl _ _)) (by decide) (by decide) hleL (by decide) (by decide) (by decide));have BB := hd_ (fun w' hb => build_any _ 30 30 _ 15 w' (slB w' hb) (by decide) (by decide) hleD (by decide) (by decide) (by decide));clear htk hcl hcd hleL hleD slA slB Hg hlt;go_wp2_with fail
    refine BA.out.mono ?_;rintro e w2 ⟨b1, c1, L, rfl, hb1, hin1, hl1, hok1, hle1, hpos1, hk1, hbw1⟩;have HX1 := hd_ (And.intro hb1 (And.intro hin1 (And.intro hl1 (And.intro hok1 (And.intro hle1 (And.intro hpos1 (And.intro hk1 hbw1)))))));have B2 := hd_ (BB.out w2 hbw1);clear hb1 hin1 hl1 hok1 hle1 hpos1 hk1 hbw1 BA BB;go_wp2_with fail
    refine B2.out.mono ?_;rintro e w3 ⟨b2, c2, D, rfl, hb2, hin2, hl2, hok2, hle2, hpos2, hk2, hbw2⟩;have HX2 := hd_ (And.intro hb2 (And.intro hin2 (And.intro hl2 (And.intro hok2 (And.intro hle2 (And.intro hpos2 (And.intro hk2 hbw2)))))));clear hb2 hin2 hl2 hok2 hle2 hpos2 hk2 hbw2 B2;go_wp2_with fail
    go_ret2
    obtain ⟨a1, a2, a3, a4, a5, a6, a7, a8⟩ := HX1.out;obtain ⟨d1, d2, d3, d4, d5, d6, d7, d8⟩ := HX2.out;have hposL : ∀ s, s < 286 -> 0 < df.cl ps s -> 1 <= L.getD s 0 := fun s hs h0 => a6 s hs (by rw [df.rowOf_get _ hs]; exact h0)
    have hposD : ∀ s, s < 30 -> 0 < df.cd ps s -> 1 <= D.getD s 0 := fun s hs h0 => d6 s hs (by rw [df.rowOf_get _ hs]; exact h0)
    refine ⟨b1, c1, b2, c2, L, D, rfl, a2.below d8, d2, Nat.le_trans HBW1.out.size a1, Nat.le_trans (Nat.le_trans HBW1.out.size a8.size) d1, ⟨a4, a5, a7⟩, ⟨d4, d5, d7⟩, ?_, hposL 256 (by decide) (by unfold df.cl; rw [if_pos rfl]; omega), (HBW1.out.trans (a8.mono HBW1.out.size)).trans (d8.mono (Nat.le_trans HBW1.out.size a8.size))⟩;intro p hp;have hgp := HG.out p hp;have hc1 : 0 < df.cl ps (df.litS p) := by
     unfold df.cl;have := List.count_pos_iff.2 (List.mem_map.2 ⟨p, hp, rfl⟩ : df.litS p ∈ ps.map df.litS);omega
    unfold df.Covers;by_cases h0 : p.n = 0
    ·rw [if_pos h0]
     have e : df.litS p = p.b.toNat := if_pos h0;rw [e] at hc1;exact hposL _ (by have := hgp.1; omega) hc1
    ·rw [if_neg h0]
     have e : df.litS p = df.lenS p.n := if_neg h0;rw [e] at hc1;obtain ⟨g1, g2, g3, g4⟩ := hgp.2 h0;have hlr := df.lenS_range g2;have hdr := df.disS_range g4 g3;refine ⟨hposL _ (by omega) hc1, hposD _ (by omega) ?_⟩;exact List.count_pos_iff.2 (List.mem_map.2 ⟨p, List.mem_filter.2 ⟨hp, by simpa using h0⟩, rfl⟩)
namespace df
def order : List Nat := [16, 17, 18, 0, 8, 7, 9, 6, 10, 5, 11, 4, 12, 3, 13, 2, 14, 1, 15]
def headBits (C : List Nat) (R : List Nat) : List Bool :=
 bt.bitsOf false 29 5 ++ (bt.bitsOf false 29 5 ++ (bt.bitsOf false 15 4 ++ (order.flatMap (fun k => bt.bitsOf false (C.getD k 0) 3) ++ R.flatMap (fun l => sb C l))))
theorem order_get (i : Nat) (h : i < 19) : order.getD i 0 < 19 := by
 have key : ∀ i, i < 19 -> order.getD i 0 < 19 := by decide
 exact key i h
theorem row_le {C R : List Nat} (hC : pf.Ok C) (i : Nat) : ((R.take i).flatMap fun l => sb C l).length <= 16 * R.length := by
 have key : ∀ R : List Nat, (R.flatMap fun l => sb C l).length <= 16 * R.length := by
  intro R
  induction R with
  | nil => simp
  | cons a r ih =>
   rw [List.flatMap_cons, List.length_append, sb_length, List.length_cons];have := getD_le16 hC a;omega
 have h1 := key (R.take i);rw [List.length_take] at h1;omega
theorem order_le (C : List Nat) (i : Nat) : ((order.take i).flatMap fun k => bt.bitsOf false (C.getD k 0) 3).length <= 57 := by
 have key : ∀ R : List Nat, (R.flatMap fun k => bt.bitsOf false (C.getD k 0) 3).length = 3 * R.length := by
  intro R
  induction R with
  | nil => simp
  | cons a r ih =>
   rw [List.flatMap_cons, List.length_append, bt.bitsOf_length, List.length_cons];omega
 rw [key, List.length_take];show 3 * min i 19 <= 57;omega
theorem mem_le15 {L : List Nat} (h : Made L) : ∀ l ∈ L, l <= 4096 := fun l hl => Nat.le_trans (h.le l hl) (by decide)
structure DS (base g : Nat) (w0 : World) (rb rc b1 c1 b2 c2 ob oc kb : Nat) (R L D C : List Nat) (pa : Option Addr) (n : Nat) (ps : List Piece) (w : World) : Prop where
 r : In w rb 316 rc R
 i : In w b1 286 c1 L
 j : In w b2 30 c2 D
 o : In w ob 19 oc C
 k : w.heap[kb]? = some (.cells (fRow .u32 (pf.codF C 19) 19) 45 (0, 0))
 p : Pz w pa n ps
 f : bt.Fr base g w0 w
 s : base <= w.heap.size
theorem DS.fr {base g : Nat} {w0 w w' : World} {rb rc b1 c1 b2 c2 ob oc kb : Nat} {R L D C : List Nat} {pa : Option Addr} {n : Nat} {ps : List Piece} {up : Bool} {M : List Bool} {v : Value} (h : DS base g w0 rb rc b1 c1 b2 c2 ob oc kb R L D C pa n ps w) (hw : bt.Wr base w g up M v) (hf : bt.Fr base g w w') : DS base g w0 rb rc b1 c1 b2 c2 ob oc kb R L D C pa n ps w' :=
 ⟨h.r.fr hw hf, h.i.fr hw hf, h.j.fr hw hf, h.o.fr hw hf, fr_block hw hf h.k (by decide) (by decide), h.p.fr hw hf, h.f.trans hf, Nat.le_trans h.s hf.below.size⟩
theorem DS.below {base g : Nat} {w0 w w' : World} {rb rc b1 c1 b2 c2 ob oc kb : Nat} {R L D C : List Nat} {pa : Option Addr} {n : Nat} {ps : List Piece} (h : DS base g w0 rb rc b1 c1 b2 c2 ob oc kb R L D C pa n ps w) (hb : Below w.heap.size w w') : DS base g w0 rb rc b1 c1 b2 c2 ob oc kb R L D C pa n ps w' :=
 ⟨h.r.below hb, h.i.below hb, h.j.below hb, h.o.below hb, (hb.block _ (block_lt h.k)).trans h.k, h.p.below hb, h.f.trans (fr_below g h.s hb), Nat.le_trans h.s hb.size⟩
end df
theorem df.order_agg (i : Nat) (hi : i < 19) : (#[.int .i64 16, .int .i64 17, .int .i64 18, .int .i64 0, .int .i64 8, .int .i64 7, .int .i64 9, .int .i64 6, .int .i64 10, .int .i64 5, .int .i64 11, .int .i64 4, .int .i64 12, .int .i64 3, .int .i64 13, .int .i64 2, .int .i64 14, .int .i64 1, .int .i64 15] : Array Value)[i]? = some (.int .i64 (df.order.getD i 0 : Nat)) := by
 match i, hi with
 | 0, _ => rfl
 | 1, _ => rfl
 | 2, _ => rfl
 | 3, _ => rfl
 | 4, _ => rfl
 | 5, _ => rfl
 | 6, _ => rfl
 | 7, _ => rfl
 | 8, _ => rfl
 | 9, _ => rfl
 | 10, _ => rfl
 | 11, _ => rfl
 | 12, _ => rfl
 | 13, _ => rfl
 | 14, _ => rfl
 | 15, _ => rfl
 | 16, _ => rfl
 | 17, _ => rfl
 | 18, _ => rfl
 | n + 19, h => omega
theorem run_index19 (cs : Array Value) (i : Nat) (v : Value) (hi : i < 19) (hx : cs[i]? = some v) (w : World) : (Instr.index 193 (.agg cs) (.int .i64 (i : Nat))).run Tryz.prog w = .ok v w := by
 have ht := Tryz.underlying193;have he := Tryz.underlying3;simp [Instr.index, run_underlying ht, asIntOf, part, isAgg, run_underlying he, hx];intro h;omega
def DynPost (base g : Nat) (L0 : List Bool) (ps : List df.Piece) (w : World) (e : Ending) (w' : World) : Prop :=
 ∃ L D C, L.length = 286 /\ D.length = 30 /\ C.length = 19 /\ df.Made L /\ df.Made D /\ df.Made C /\ (∀ l ∈ C, l <= 7) /\ (∀ l ∈ L ++ D, 1 <= C.getD l 0) /\ (∀ p ∈ ps, df.Covers L D p) /\ 1 <= L.getD 256 0 /\
  df.EmitPost base g false (L0 ++ df.headBits C (L ++ D) ++ df.bodyBits L D ps) w e w'
theorem dynamic_any {base g : Nat} {w : World} {L0 : List Bool} {v : Value} (h : bt.Wr base w g false L0 v) (hb : base <= w.heap.size) (pa : Option Addr) (n pc : Nat) (ps : List df.Piece) (hp : df.Pz w pa n ps) (hg : ∀ p ∈ ps, df.Good p) (hn : n <= 16777216) (hL : L0.length <= 1024) :
  Calls Tryz.prog 56 #[.pointer (some ⟨g, 0, none⟩), .slice pa n pc] w (DynPost base g L0 ps w) := by
 have CC := hd_ (counted_any pa n pc ps w hp hg hn);have mk : ∀ w, (Instr.makeSlice 59 (.int .i64 19) (.int .i64 19)).run Tryz.prog w = .ok (.slice (some ⟨w.heap.size, 0, none⟩) 19 19) (w.alloc (.cells (fRow .i64 (fun _ => 0) 19) 3)) := make_i64 19 (by decide);have MK := hd_ mk;have HW0 := hd_ h;have HP0 := hd_ hp;have HG := hd_ hg;have HBS := hd_ hb;clear h hp hg hb mk;go_enter Tryz.func56, Tryz.ntmps56
 go_wp2_with fail
 refine CC.out.mono ?_;rintro e w1 ⟨b1, c1, b2, c2, L, D, rfl, hi1, hi2, hlo1, hlo2, hmL, hmD, hcv, hend, hbw⟩;have HI1 := hd_ hi1;have HI2 := hd_ hi2;have HML := hd_ hmL;have HMD := hd_ hmD;have HCV := hd_ hcv;have HEND := hd_ hend;have HBW := hd_ hbw;have hL1 := hi1.len;have hD1 := hi2.len;have HLL := hd_ (And.intro hL1 hD1);have hba : Below w1.heap.size w1 (w1.alloc (.cells #[.slice (some ⟨b1, 0, none⟩) 286 c1, .slice (some ⟨b2, 0, none⟩) 30 c2] 59)) := (Below.refl _ _).alloc (Nat.le_refl _) _;have hna := heap_alloc_new w1 (.cells #[.slice (some ⟨b1, 0, none⟩) 286 c1, .slice (some ⟨b2, 0, none⟩) 30 c2] 59 (0, 0));obtain ⟨wa, hwa⟩ : ∃ z, w1.alloc (.cells #[.slice (some ⟨b1, 0, none⟩) 286 c1, .slice (some ⟨b2, 0, none⟩) 30 c2] 59) = z := ⟨_, rfl⟩;rw [hwa] at hba hna;have CAT := hd_ (catI_any w1.heap.size 286 30 316 b1 b2 c1 c2 L D wa hna (hi1.below hba) (hi2.below hba) rfl (by decide) (df.mem_le15 hmL) (df.mem_le15 hmD));have HIA1 := hd_ (hi1.below hba);have HIA2 := hd_ (hi2.below hba);have HBA := hd_ (hbw.trans (hba.mono hbw.size));clear hi1 hi2 hlo1 hlo2 hmL hmD hcv hend hbw hL1 hD1 hba hna HI1 HI2 HBW CC;go_wp2_with fail
 refine CAT.out.mono ?_;rintro e w2 ⟨rb, rc, rfl, hrb, hin, hb2⟩;have hba : Below w2.heap.size w2 (w2.alloc (.cells (fRow .i64 (fun _ => 0) 19) 3)) := (Below.refl _ _).alloc (Nat.le_refl _) _;have hna := heap_alloc_new w2 (.cells (fRow .i64 (fun _ => 0) 19) 3 (0, 0));have hmk := MK.out w2;obtain ⟨w3, hw3⟩ : ∃ z, w2.alloc (.cells (fRow .i64 (fun _ => 0) 19) 3) = z := ⟨_, rfl⟩;obtain ⟨cb, hcb⟩ : ∃ z, w2.heap.size = z := ⟨_, rfl⟩;have hltb : ∀ {j : Nat} {o : Obj}, w2.heap[j]? = some o -> j ≠ cb := fun hj e => by have := block_lt hj; omega
 rw [hw3] at hba hna hmk;rw [hcb] at hna hmk;have HNE : Hid (some rb ≠ some cb /\ some b1 ≠ some cb /\ some b2 ≠ some cb /\ w.heap.size <= cb) := hd_ (by
  obtain ⟨_, h1⟩ := hin.ty;obtain ⟨_, h2⟩ := (HIA1.out.below hb2).ty;obtain ⟨_, h3⟩ := (HIA2.out.below hb2).ty;exact ⟨fun e => hltb h1 (Option.some.inj e), fun e => hltb h2 (Option.some.inj e), fun e => hltb h3 (Option.some.inj e), by rw [<- hcb]; exact Nat.le_trans HBA.out.size hb2.size⟩)
 have HR := hd_ (hin.below hba);have HI1 := hd_ ((HIA1.out.below hb2).below hba);have HI2 := hd_ ((HIA2.out.below hb2).below hba);have HC3 := hd_ hna;have HB3 := hd_ ((HBA.out.trans (hb2.mono HBA.out.size)).trans (hba.mono (Nat.le_trans HBA.out.size hb2.size)));have HRL := hd_ hin.len;obtain ⟨R, hR⟩ : ∃ z, L ++ D = z := ⟨_, rfl⟩;have HRE := hd_ hR;have HRM : Hid (∀ l ∈ R, l <= 15) := hd_ (fun l hl => by
  rw [<- hR] at hl;rcases List.mem_append.1 hl with h | h
  ·exact HML.out.le l h
  ·exact HMD.out.le l h)
 rw [hR] at HR HRL;clear hrb hin hb2 CAT hba hna hw3 hcb hltb HIA1 HIA2 HBA hR MK;go_upto_region 4 with (fail)
 clear hmk;go_loopg [30] 316 (fun gk s30 wr => ∃ i : Nat, i <= 316 /\ gk = 316 - i /\ s30 = .int .i64 (i : Nat) /\ wr.heap[cb]? = some (.cells (fRow .i64 (fun s => (R.take i).count s) 19) 3 (0, 0)) /\ In wr rb 316 rc R /\ In wr b1 286 c1 L /\ In wr b2 30 c2 D /\ Below w.heap.size w wr)
 case atStart => exact ⟨0, Nat.zero_le _, rfl, by go_num, HC3.out, HR.out, HI1.out, HI2.out, HB3.out⟩
 case round =>
  obtain ⟨i, hi, hg, rfl, hqc, hr, h1, h2, hbw⟩ := hrel;have Hg := hd_ hg;have HC := hd_ hqc;have HRr := hd_ hr;have HJ1 := hd_ h1;have HJ2 := hd_ h2;have HBW := hd_ hbw;clear hg hqc hr h1 h2 hbw HC3 HR HI1 HI2 HB3;by_cases hlt : i < 316
  ·have k0 := HRr.out.cell hlt
   have hil : i < R.length := (by rw [HRL.out]; exact hlt);have hx15 := HRM.out _ (pf.getD_mem hil);have HTK := hd_ (take_snocN hil);have hct : ∀ s, (R.take i).count s <= 316 := fun s => Nat.le_trans List.count_le_length (by rw [List.length_take]; omega)
   obtain ⟨x, hx⟩ : ∃ z, R.getD i 0 = z := ⟨_, rfl⟩;rw [hx] at k0 hx15 HTK;have a0 := fRow_cell (j := x) HC.out (by omega);have fa := frozen_of_row wr cb x _ _ HC.out;have hy0 := hct x;obtain ⟨y, hy⟩ : ∃ z, (R.take i).count x = z := ⟨_, rfl⟩;rw [hy] at a0 hy0;have e1 : IntKind.i64.wrap ((y : Int) + 1) = ((y + 1 : Nat) : Int) := i64o (by omega) (by omega);obtain ⟨z, hz⟩ : ∃ z, y + 1 = z := ⟨_, rfl⟩;rw [hz] at e1;have HC5 := hd_ (fRow_store (j := x) HC.out (fun s => (R.take (i + 1)).count s) z (by
    show (R.take (i + 1)).count x = z;rw [HTK.out, List.count_append, hy, List.count_singleton_self];exact hz) (fun j _ hj => by
    show (R.take (i + 1)).count j = (R.take i).count j;rw [HTK.out, List.count_append, List.count_singleton];simp [Ne.symm hj]))
   have hgs := grownBy_setCell3 wr cb x (.int .i64 (z : Nat));have HR5 := hd_ (pb.In_grown HRr.out hgs HNE.out.1);have HJ15 := hd_ (pb.In_grown HJ1.out hgs HNE.out.2.1);have HJ25 := hd_ (pb.In_grown HJ2.out hgs HNE.out.2.2.1);have HB5 := hd_ (HBW.out.setCell (p := ⟨cb, x, none⟩) HNE.out.2.2.2 (.int .i64 (z : Nat)));have hi1 : (i : Int) < 316 := (by omega);have hi2 : ¬ 316 = i := (by omega);have hic : ¬ rc = i := (by have := HRr.out.sl.fits; omega);have hx1 : (x : Int) < 19 := (by omega);have hx2 : ¬ x = 19 := (by omega);clear hx hy hy0 hz hgs hil hct HC HRr HJ1 HJ2 HBW;go_wp2_with fail
   go_roundg (316 - (i + 1))
   case measure => have := Hg.out; omega
   case rel => exact ⟨i + 1, by omega, rfl, by go_num, HC5.out, HR5.out, HJ15.out, HJ25.out, HB5.out⟩
  ·obtain rfl : i = 316 := by omega
   have htk : R.take 316 = R := List.take_of_length_le (by rw [HRL.out]; exact Nat.le_refl _);rw [htk] at HC;have hle : ∀ x ∈ df.rowOf (fun s => R.count s) 19, x <= 1073741824 := df.rowOf_le _ (fun j => Nat.le_trans List.count_le_length (by rw [HRL.out]; decide));have BC := hd_ (build_any _ 19 19 _ 7 wr (fRow_sl HC.out (df.rowOf_length _ _) (fun j hj => (df.rowOf_get (fun s => R.count s) hj).symm) (by decide) (fun x hx => Nat.le_trans (hle x hx) (by decide))) (by decide) (by decide) hle (by decide) (by decide) (by decide));clear htk hle Hg hlt;go_wp2_with fail
   refine BC.out.mono ?_;rintro e w4 ⟨ob, oc, C, rfl, hob, hin, hlen, hok, hle7, hpos, hkr, hb4⟩;have HMC : Hid (df.Made C) := hd_ ⟨hok, fun l hl => Nat.le_trans (hle7 l hl) (by decide), hkr⟩;have HC7 := hd_ hle7;have HCL := hd_ hlen;have HPC : Hid (∀ l ∈ R, 1 <= C.getD l 0) := hd_ (fun l hl => hpos l (by have := HRM.out l hl; omega) (by
    rw [df.rowOf_get _ (by have := HRM.out l hl; omega)];exact List.count_pos_iff.2 hl))
   have CCo := hd_ (codes_any _ _ _ _ w4 hin.sl (by decide) hok);have HO4 := hd_ hin;have HR4 := hd_ (HRr.out.below hb4);have HJ14 := hd_ (HJ1.out.below hb4);have HJ24 := hd_ (HJ2.out.below hb4);have HB4 := hd_ (HBW.out.trans (hb4.mono HBW.out.size));clear hob hin hlen hok hle7 hpos hkr hb4 BC HC HRr HJ1 HJ2 HBW;go_wp2_with fail
   refine CCo.out.mono ?_;rintro e w5 ⟨kb, rfl, hkb, hk5, hb5⟩;have hb05 := HB4.out.trans (hb5.mono HB4.out.size);have HDS := hd_ (show df.DS base g w rb rc b1 c1 b2 c2 ob oc kb R L D C pa n ps w5 from ⟨HR4.out.below hb5, HJ14.out.below hb5, HJ24.out.below hb5, HO4.out.below hb5, hk5, HP0.out.below hb05, fr_below g HBS.out hb05, Nat.le_trans HBS.out hb05.size⟩);have HW5 := hd_ (HW0.out.below hb05);clear hkb hk5 hb5 hb05 CCo HO4 HR4 HJ14 HJ24 HB4 HNE HP0 HW0;have P1 := hd_ (put_any HW5.out HDS.out.s 29 5 (by decide) (by decide) (by omega));go_wp2_with fail
   refine P1.out.mono ?_;rintro e w6 ⟨rfl, v6, hw6, hf6⟩;have HDS6 := hd_ (HDS.out.fr HW5.out hf6);have HW6 := hd_ hw6;clear hw6 hf6 P1 HDS HW5;have P2 := hd_ (put_any HW6.out HDS6.out.s 29 5 (by decide) (by decide) (by simp [bt.bitsOf_length]; omega));go_wp2_with fail
   refine P2.out.mono ?_;rintro e w7 ⟨rfl, v7, hw7, hf7⟩;have HDS7 := hd_ (HDS6.out.fr HW6.out hf7);have HW7 := hd_ hw7;clear hw7 hf7 P2 HDS6 HW6;have P3 := hd_ (put_any HW7.out HDS7.out.s 15 4 (by decide) (by decide) (by simp [bt.bitsOf_length]; omega));go_wp2_with fail
   refine P3.out.mono ?_;rintro e w8 ⟨rfl, v8, hw8, hf8⟩;have HDS8 := hd_ (HDS7.out.fr HW7.out hf8);obtain ⟨M, eM⟩ : ∃ x, L0 ++ bt.bitsOf false 29 5 ++ bt.bitsOf false 29 5 ++ bt.bitsOf false 15 4 = x := ⟨_, rfl⟩;rw [eM] at hw8;have HML2 : Hid (M.length <= 1038) := hd_ (by rw [<- eM]; simp [bt.bitsOf_length]; omega);have HW8 := hd_ hw8;have EM := hd_ eM;clear hw8 hf8 eM P3 HDS7 HW7;go_wp2_with fail
   go_loopg [66] 19 (fun gk s66 wr => ∃ (i : Nat) (v' : Value), i <= 19 /\ gk = 19 - i /\ s66 = .int .i64 (i : Nat) /\ bt.Wr base wr g false (M ++ (df.order.take i).flatMap fun k => bt.bitsOf false (C.getD k 0) 3) v' /\ df.DS base g w rb rc b1 c1 b2 c2 ob oc kb R L D C pa n ps wr)
   case atStart => exact ⟨0, v8, Nat.zero_le _, rfl, by go_num, by simpa using HW8.out, HDS8.out⟩
   case round =>
    obtain ⟨i, v', hi, hg, rfl, hw, hds⟩ := hrel;have Hg := hd_ hg;have HW := hd_ hw;have HDS := hd_ hds;clear hg hw hds HDS8 HW8;by_cases hlt : i < 19
    ·have hk19 := df.order_get i hlt
     have hole := df.order_le C i;have HTK : Hid (df.order.take (i + 1) = df.order.take i ++ [df.order.getD i 0]) := hd_ (take_snocN hlt);have hri := run_index19 _ i _ hlt (df.order_agg i hlt) wr;obtain ⟨k, hk⟩ : ∃ z, df.order.getD i 0 = z := ⟨_, rfl⟩;rw [hk] at hk19 hri HTK;have c0 := HDS.out.o.cell (i := k) hk19;have hc7 := HC7.out (C.getD k 0) (pf.getD_mem (by rw [HCL.out]; exact hk19));obtain ⟨x, hx⟩ : ∃ z, C.getD k 0 = z := ⟨_, rfl⟩;rw [hx] at c0 hc7;have HX := hd_ hx;have P := hd_ (put_any HW.out HDS.out.s x 3 (by omega) (by decide) (by rw [List.length_append]; have := HML2.out; omega));have hi1 : (i : Int) < 19 := (by omega);have hi2 : ¬ 19 = i := (by omega);have hcv2 : IntKind.u32.wrap (x : Int) = (x : Int) := IntWalk.u32_in _ (by omega);have hk1 : (k : Int) < 19 := (by omega);have hk2 : ¬ oc = k := (by have := HDS.out.o.sl.fits; omega);clear hole hk hx;go_wp2_with fail
     refine P.out.mono ?_;rintro e w9 ⟨rfl, v9, hw9, hf9⟩;have HDS9 := hd_ (HDS.out.fr HW.out hf9);have HW9 := hd_ hw9;clear hw9 hf9 P HDS HW hri;go_wp2_with fail
     go_roundg (19 - (i + 1))
     case measure => have := Hg.out; omega
     case rel =>
      refine ⟨i + 1, v9, by omega, rfl, by go_num, ?_, HDS9.out⟩;rw [HTK.out, List.flatMap_append, List.flatMap_singleton, <- List.append_assoc, HX.out];exact HW9.out
    ·obtain rfl : i = 19 := by omega
     have htk : df.order.take 19 = df.order := rfl;rw [htk] at HW;have hole := df.order_le C 19;rw [htk] at hole;obtain ⟨M2, eM2⟩ : ∃ x, M ++ df.order.flatMap (fun k => bt.bitsOf false (C.getD k 0) 3) = x := ⟨_, rfl⟩;have HM2 : Hid (M2.length <= 1100) := hd_ (by rw [<- eM2, List.length_append]; have := HML2.out; omega);rw [eM2] at HW;have EM2 := hd_ eM2;clear htk hole eM2 Hg hlt;go_wp2_with fail
     go_loopg [79] 316 (fun gk s79 wr => ∃ (i : Nat) (v' : Value), i <= 316 /\ gk = 316 - i /\ s79 = .int .i64 (i : Nat) /\ bt.Wr base wr g false (M2 ++ (R.take i).flatMap fun l => df.sb C l) v' /\ df.DS base g w rb rc b1 c1 b2 c2 ob oc kb R L D C pa n ps wr)
     case atStart => exact ⟨0, v', Nat.zero_le _, rfl, by go_num, by simpa using HW.out, HDS.out⟩
     case round =>
      obtain ⟨i, v', hi, hg, rfl, hw, hds⟩ := hrel;have Hg := hd_ hg;have HWr := hd_ hw;have HDSr := hd_ hds;clear hg hw hds HDS HW;by_cases hlt : i < 316
      ·have hil : i < R.length := by rw [HRL.out]; exact hlt
       have k0 := HDSr.out.r.cell hlt;have hx15 := HRM.out _ (pf.getD_mem hil);have HTK := hd_ (take_snocN hil);have hrl := df.row_le HMC.out.ok (R := R) i;rw [HRL.out] at hrl;obtain ⟨l, hl⟩ : ∃ z, R.getD i 0 = z := ⟨_, rfl⟩;rw [hl] at k0 hx15 HTK;have hi1 : (i : Int) < 316 := (by omega);have hi2 : ¬ 316 = i := (by omega);have hi3 : ¬ rc = i := (by have := HDSr.out.r.sl.fits; omega);clear hil hl;go_upto_region 21 with (fail)
       have c1' := fRow_cell (j := l) HDSr.out.k (by omega);have c2' := HDSr.out.o.cell (i := l) (by omega);have kb' := df.cod_lt HMC.out.ok HCL.out l;have kl := df.getD_le16 HMC.out.ok l;have KS := hd_ (df.sb_cod HCL.out l);obtain ⟨co, hco⟩ : ∃ x, pf.codF C 19 l = x := ⟨_, rfl⟩;obtain ⟨le, hle⟩ : ∃ x, C.getD l 0 = x := ⟨_, rfl⟩;rw [hco] at c1' kb' KS;rw [hle] at c2' kl KS;have u1 : (l : Int) < 19 := (by omega);have u2 : ¬ oc = l := (by have := HDSr.out.o.sl.fits; omega);have u3 : ¬ 19 = l := (by omega);clear hco hle k0;have k1 := cell_regrown c1';have k2 := cell_regrown c2';clear c1' c2';refine wp_region_quiet_tail 9 (by kernel_rfl) (by kernel_rfl) ?_;simp only [List.take_succ_cons, List.take_zero, List.drop_succ_cons, List.drop_zero]
       repeat (go_big_quiet_step (fail))
       refine wpQuiet_nil ?_;intro _ hw';obtain ⟨⟨dq, osq⟩, hw''⟩ := hw';subst hw'';have hb4 := below_regrown wr dq osq;clear k1 k2 u1 u2 u3;generalize grow (redrawn wr dq) osq = w4 at *;have HDS4 := hd_ (HDSr.out.below hb4);have HW4 := hd_ (HWr.out.below hb4);clear hb4 HDSr HWr;have CE := hd_ (emit_any HW4.out HDS4.out.s co le (by omega) (by omega) (by rw [List.length_append]; have := HM2.out; omega));go_wp2_with fail
       refine CE.out.mono ?_;rintro e w9 ⟨rfl, v9, hw9, hf9⟩;have HDS9 := hd_ (HDS4.out.fr HW4.out hf9);have HW9 := hd_ hw9;clear hw9 hf9 CE HDS4 HW4;go_wp2_with fail
       go_roundg (316 - (i + 1))
       case measure => have := Hg.out; omega
       case rel =>
        refine ⟨i + 1, v9, by omega, rfl, by go_num, ?_, HDS9.out⟩;rw [HTK.out, List.flatMap_append, List.flatMap_singleton, <- List.append_assoc, <- KS.out];exact HW9.out
      ·obtain rfl : i = 316 := by omega
       have htk : R.take 316 = R := List.take_of_length_le (by rw [HRL.out]; exact Nat.le_refl _);have hrl := df.row_le HMC.out.ok (R := R) 316;rw [htk] at HWr hrl;rw [HRL.out] at hrl;obtain ⟨M3, eM3⟩ : ∃ x, M2 ++ R.flatMap (fun l => df.sb C l) = x := ⟨_, rfl⟩;have hM3 : M3.length <= 8192 := (by rw [<- eM3, List.length_append]; have := HM2.out; omega);rw [eM3] at HWr;have EM3 := hd_ eM3;have BD := hd_ (body_any HWr.out HDSr.out.s pa n pc ps HDSr.out.p HG.out b1 286 c1 L HDSr.out.i (by decide) (by decide) HML.out.ok b2 30 c2 D HDSr.out.j (by decide) (by decide) HMD.out.ok (by omega) (by omega));clear htk hrl hM3 eM3 Hg hlt;go_wp2_with fail
       refine BD.out.mono ?_;rintro e w9 ⟨rfl, v9, hw9, hf9⟩;have HW9 := hd_ hw9;have HF9 := hd_ (HDSr.out.f.trans hf9);clear hw9 hf9 BD HDSr HWr;go_wp2_with fail
       refine bodyPost_end (results_none rfl _ _ _) rfl ⟨L, D, C, HLL.out.1, HLL.out.2, HCL.out, HML.out, HMD.out, HMC.out, HC7.out, by rw [HRE.out]; exact HPC.out, HCV.out, HEND.out, rfl, v9, ?_, HF9.out⟩;have e : L0 ++ df.headBits C (L ++ D) = M3 := by
        rw [<- EM3.out, <- EM2.out, <- EM.out, HRE.out];unfold df.headBits;simp only [List.append_assoc]
       rw [e];exact HW9.out
end Go.Proofs.YthpckmcgbmfmcaaGreatDoor
