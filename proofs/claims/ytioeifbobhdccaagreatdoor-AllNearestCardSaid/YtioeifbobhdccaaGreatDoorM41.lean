/- gif.Encode. -/
import Derived.Test.YtioeifbobhdccaaGreatDoorM30
import Derived.Test.YtioeifbobhdccaaGreatDoorM29
import Derived.Test.YtioeifbobhdccaaGreatDoorM40
import Derived.Test.YtioeifbobhdccaaGreatDoorM36
import Derived.Test.YtioeifbobhdccaaGreatDoorM3
import Derived.Lib.SlBytesConst
namespace Go.Proofs.YtioeifbobhdccaaGreatDoor
open Go.RowKit Go.Sort Go.Shelf Go.Maps
attribute [local go_sem] Oper.semAt_some
def EncPost (W H : Nat) (l : List Int) (N : Nat) (w : World) (e : Ending) (w' : World) : Prop :=
  ∃ P0 sz T v, all8 P0 ∧ (1 ≤ (encP (goneB l N) P0).length ∧ (encP (goneB l N) P0).length ≤ 256) ∧ ((∃ k, k < N ∧ 32768 ≤ (pix l k).a) → P0 ≠ []) ∧ (1 ≤ sz ∧ sz ≤ 8 ∧ (encP (goneB l N) P0).length ≤ 2 ^ sz) ∧ lz.Tells (gifK (max sz 2)) T (encX P0 l N) ∧
    T.length ≤ 2 * N + 3 ∧ e = .returned (.tuple #[v, .int .i64 0]) ∧ Below w.heap.size w w' ∧
    w'.ownsRow w.heap.size 5 1 v (gifFile W H sz (goneB l N) P0 (bt.bytes false (lz.bitsOfAll false T))).length ((gifFile W H sz (goneB l N) P0 (bt.bytes false (lz.bitsOfAll false T))).map (Value.int .u8))
/-- what a second Apply hands over -/
def SolidR (B : Nat) (P0 : List C4) (l : List Int) (N : Nat) (er : Int) (v : Value) (w' : World) : Prop :=
  ∃ a b ha na ca hb nb cb, v = .agg #[.int .i64 a, .int .i64 b, .slice ha na ca, .slice hb nb cb] ∧
    ((er = 0 ∧ ∃ g, hb = some ⟨g, 0, none⟩ ∧ nb = N ∧ w'.ownsRow B 5 1 (.slice (some ⟨g, 0, none⟩) N cb) N ((idxs P0 (-1) (cols l N)).map (Value.int .u8))) ∨ (er = 2 ∧ P0 = []))
theorem SolidR.grown {B : Nat} {P0 : List C4} {l : List Int} {N : Nat} {er : Int} {v : Value} {w w' : World} {row : Option Nat} (h : SolidR B P0 l N er v w) (hg : w.grownBy w' row) (hr : ∀ r, row = some r → ∃ cs, w.heap[r]? = some (.cells cs 40 (0, 0))) : SolidR B P0 l N er v w' := by
  obtain ⟨a, b, ha, na, ca, hb, nb, cb, rfl, h⟩ := h
  refine ⟨a, b, ha, na, ca, hb, nb, cb, rfl, ?_⟩
  rcases h with ⟨h1, g, h2, h3, h4⟩ | h
  · refine .inl ⟨h1, g, h2, h3, World.ownsRow.kept h4 hg ?_⟩
    cases row with
    | none => exact .inr (fun e => by cases e)
    | some r =>
      obtain ⟨cs, hc⟩ := hr r rfl
      exact .inr fun e => own_ne h4 hc (by decide) e.symm
  · exact .inr h
theorem SolidR.below {B : Nat} {P0 : List C4} {l : List Int} {N : Nat} {er : Int} {v : Value} {w w' : World} (h : SolidR B P0 l N er v w) (hb : Below w.heap.size w w') : SolidR B P0 l N er v w' := h.grown (grown_of_below hb) (fun r e => by cases e)
theorem RdC.left {w : World} {a : Option Addr} {s t : List C4} (h : RdC w a (s ++ t)) : RdC w a s := by
  rcases h with h | ⟨b, off, e, hc⟩
  · exact .inl (List.append_eq_nil_iff.1 h).1
  · refine .inr ⟨b, off, e, fun i hi => ?_⟩
    have := hc i (by rw [List.length_append]; omega)
    have h1 : (s ++ t).getD i C4.zero = s.getD i C4.zero := by simp [List.getD_eq_getElem?_getD, List.getElem?_append_left hi]
    rw [h1] at this
    exact this
set_option maxRecDepth 100000 in
set_option maxHeartbeats 6400000 in
theorem encode_any (W H : Nat) (p : Option Addr) (n cap : Nat) (l : List Int) (w : World) (h : Sl .u16 w p n cap l) (hg : imgGood W H n) (N : Nat) (hN : n = 4 * N) :
    Calls Tryz.prog 5 #[.agg #[.int .i64 (W : Nat), .int .i64 (H : Nat), .slice p n cap]] w (EncPost W H l N w) := by
  have hsides := sides_mul hg.1 hg.2.1 hg.2.2.1 hg.2.2.2.1
  have hNW : (N : Int) = (W : Int) * (H : Int) := by have := hg.2.2.2.2.2; omega
  have hN6 : N ≤ 65536 := by have := hg.2.2.2.2.1; omega
  have hN1 : 1 ≤ N := by omega
  have hW6 : W ≤ 4096 := by have := hg.2.2.1; omega
  have hH6 : H ≤ 4096 := by have := hg.2.2.2.1; omega
  have HS := Lib.hid h
  have HG := Lib.hid hg
  have HNN := Lib.hid hN
  obtain ⟨pb, po, rfl, _⟩ := h.cells (by omega)
  have CGd := Lib.hid (fun w => good_any (W : Int) (H : Int) (some ⟨pb, po, none⟩) n cap w)
  rw [goodB_true hg] at CGd
  have q0 := heap_alloc_new w (.cells #[.int .i64 (W : Nat), .int .i64 (H : Nat), .slice (some ⟨pb, po, none⟩) n cap] 24 (0, 0))
  have B0 := Lib.hid ((Below.refl w.heap.size w).alloc (Nat.le_refl _) (.cells #[.int .i64 (W : Nat), .int .i64 (H : Nat), .slice (some ⟨pb, po, none⟩) n cap] 24))
  have KB := Lib.hid q0
  clear h hg hN hNW q0 hsides
  refine (callsIn_wide (n := 6)).1 (callsIn_of_wp_marks Tryz.func5 rfl trivial ?_ rfl)
  simp only [Tryz.ntmps5, List.size_toArray, List.length_cons, List.length_nil, Nat.reduceAdd, Nat.reduceSub, Array.replicate_succ, Array.replicate_zero, List.push_toArray, List.append_toArray, List.nil_append, List.cons_append]
  refine wpIn_wide.2 ?_
  go_upto_region 1 with (fail)
  obtain ⟨ib, hib⟩ : ∃ ib, w.heap.size = ib := ⟨_, rfl⟩
  rw [hib] at B0 KB ⊢
  have HIB := Lib.hid hib
  clear hib
  generalize w.alloc (.cells #[.int .i64 (W : Nat), .int .i64 (H : Nat), .slice (some ⟨pb, po, none⟩) n cap] 24) = w0 at *
  have c0 := (cell_of_row w0 _ 0 _ _ (0, 0) KB.out).trans (show _ = some (Value.int .i64 (W : Nat)) from rfl)
  have c1 := (cell_of_row w0 _ 1 _ _ (0, 0) KB.out).trans (show _ = some (Value.int .i64 (H : Nat)) from rfl)
  have c2 := (cell_of_row w0 _ 2 _ _ (0, 0) KB.out).trans (show _ = some (Value.slice (some ⟨pb, po, none⟩) n cap) from rfl)
  go_wp2_with fail
  refine (CGd.out w0).mono ?_
  rintro e w1 ⟨rfl, hb1⟩
  have d0 := keep_cell hb1 c0
  have d1 := keep_cell hb1 c1
  have d2 := keep_cell hb1 c2
  have HB1 : Hid (Below w.heap.size w w1) := Lib.hid (by have := B0.out; rw [← HIB.out] at this; exact this.trans (hb1.mono this.size))
  have KB1 := Lib.hid ((hb1.block _ (block_lt KB.out)).trans KB.out)
  clear c0 c1 c2 hb1 CGd B0 KB
  go_wp2_with fail
  go_loopg [4, 5] N (fun gk s4 s5 wr => wr = w1 ∧ ∃ k : Nat, k ≤ N ∧ gk = N - k ∧ s4 = .bool (goneB l k) ∧ s5 = .int .i64 (3 + 4 * k : Nat))
  case atStart => exact ⟨rfl, 0, Nat.zero_le _, rfl, by simp [goneB], by go_num⟩
  case round =>
    obtain ⟨rfl, k, hk, hgk, rfl, rfl⟩ := hrel
    have Hg := Lib.hid hgk
    clear hgk
    by_cases hlt : k < N
    · skip
      --FAST{
      obtain ⟨_, _, ee, hcell⟩ := (HS.out.below HB1.out).cells (by have := HNN.out; omega)
      cases ee
      have ka := hcell (3 + 4 * k) (by have := HNN.out; omega)
      rw [show l.getD (3 + 4 * k) 0 = (pix l k).a by rw [Nat.add_comm]; rfl] at ka
      have hfit := HS.out.fits
      have hi1 : ((3 + 4 * k : Nat) : Int) < (n : Int) := by have := HNN.out; omega
      have hi3 : ¬ cap = 3 + 4 * k := by have := HNN.out; omega
      obtain ⟨al, hal⟩ : ∃ x, (pix l k).a = x := ⟨_, rfl⟩
      rw [hal] at ka
      have HAL := Lib.hid hal
      have HGS : Hid (goneB l (k + 1) = (goneB l k || decide (al < 32768))) := Lib.hid (by rw [goneB_succ, hal])
      obtain ⟨gb, hgb⟩ : ∃ b, goneB l k = b := ⟨_, rfl⟩
      rw [hgb] at HGS ⊢
      obtain ⟨ii, hii⟩ : ∃ ii, 3 + 4 * k = ii := ⟨_, rfl⟩
      have hii6 : ii ≤ 1048576 := by omega
      rw [hii] at ka hi1 hi3 ⊢
      have HII := Lib.hid hii
      clear hcell hgb hal hii
      cases gb with
      | true =>
        go_wp2_with fail
        go_roundg (N - (k + 1))
        case measure => have := Hg.out; omega
        case rel => exact ⟨rfl, k + 1, by omega, rfl, by rw [HGS.out]; rfl, congrArg (Value.int .i64) (by have := HII.out; omega)⟩
      | false =>
        go_wp2_with fail
        go_roundg (N - (k + 1))
        case measure => have := Hg.out; omega
        case rel => exact ⟨rfl, k + 1, by omega, rfl, by rw [HGS.out]; simp, congrArg (Value.int .i64) (by have := HII.out; omega)⟩
      --FAST}
    · have hkN : k = N := by omega
      obtain ⟨ii, hii⟩ : ∃ ii, 3 + 4 * k = ii := ⟨_, rfl⟩
      rw [hii, hkN]
      have hi1 : ¬ ((ii : Int) < (n : Int)) := by have := HNN.out; omega
      have hii6 : ii ≤ 1048576 := by omega
      obtain ⟨gb, hgb⟩ : ∃ b, goneB l N = b := ⟨_, rfl⟩
      rw [hgb]
      have HGB := Lib.hid hgb
      clear hii hgb Hg hk hlt hkN
      go_upto_if 41 with (fail)
      go_cut [6] from 42 to 209 (fun s6 wx => s6 = .int .i64 (if gb then 255 else 256 : Nat) ∧ wr = wx)
      case first =>
        cases gb with
        | true =>
          go_wp2_with fail
          go_meet
          exact ⟨rfl, rfl⟩
        | false =>
          go_wp2_with fail
          go_meet
          exact ⟨rfl, rfl⟩
      case rest =>
        obtain ⟨rfl, rfl⟩ := hcut
        obtain ⟨most, hmost⟩ : ∃ m : Nat, (if gb then 255 else 256) = m := ⟨_, rfl⟩
        have hm1 : 1 ≤ most ∧ most ≤ 256 ∧ (gb = true → most ≤ 255) := by rw [← hmost]; cases gb <;> simp
        rw [hmost]
        obtain ⟨hm1, hm2, hm3⟩ := hm1
        have CP := Lib.hid (palette_any (W : Int) (H : Int) (some ⟨pb, po, none⟩) n cap l wr (HS.out.below HB1.out) HG.out N HNN.out most hm1 hm2)
        clear hmost hi1 hii6
        go_wp2_with fail
        refine CP.out.mono ?_
        rintro e w2 ⟨v7, P0, rfl, hoP, h8P, hlP, hnP, hb2⟩
        have HB2 := Lib.hid (HB1.out.trans (hb2.mono HB1.out.size))
        have KB2 := Lib.hid ((hb2.block _ (block_lt KB1.out)).trans KB1.out)
        have HOP := Lib.hid (World.ownsRow.mono hoP HB1.out.size)
        have H8P := Lib.hid h8P
        have HNP := Lib.hid hnP
        have hPl : P0.length ≤ 256 := by omega
        have hPl2 : gb = true → P0.length ≤ 255 := fun h => Nat.le_trans hlP (hm3 h)
        have HPL2 := Lib.hid hPl2
        clear hoP h8P hnP hb2 CP d0 d1 d2 hm1 hm2 hm3 hlP hPl2
        go_upto_if 48 with (fail)
        go_cut [7] from 49 to 209 (fun s7 wx => OwnC w.heap.size wx s7 (encP gb P0) ∧ wx.heap[ib]? = some (.cells #[.int .i64 (W : Nat), .int .i64 (H : Nat), .slice (some ⟨pb, po, none⟩) n cap] 24 (0, 0)) ∧ Below w.heap.size w wx)
        case first =>
          --FAST{
          cases gb with
          | true =>
            have hB3 : Below w2.heap.size w2 (w2.alloc (.cells #[.int .u16 C4.zero.r, .int .u16 C4.zero.g, .int .u16 C4.zero.b, .int .u16 C4.zero.a] 38)) := (Below.refl _ _).alloc (Nat.le_refl _) _
            have HB3 := Lib.hid hB3
            have HN3 := Lib.hid (heap_alloc_new w2 (.cells #[.int .u16 C4.zero.r, .int .u16 C4.zero.g, .int .u16 C4.zero.b, .int .u16 C4.zero.a] 38))
            have HO3 := Lib.hid (OwnC.below HOP.out hB3)
            have HZ3 : Hid (w.heap.size ≤ (w2.alloc (.cells #[.int .u16 C4.zero.r, .int .u16 C4.zero.g, .int .u16 C4.zero.b, .int .u16 C4.zero.a] 38)).heap.size) := Lib.hid (Nat.le_trans HB2.out.size hB3.size)
            have HK3 := Lib.hid ((hB3.block _ (block_lt KB2.out)).trans KB2.out)
            clear hB3
            unfold C4.zero at HB3 HN3 HO3 HZ3 HK3
            dsimp only at HB3 HN3 HO3 HZ3 HK3
            go_wp2_with (at_builtin; go_must (refine wpList_of_append rfl (.tmp 49) (.tmp 51) 34 34 rfl (run_append_col _ _ w.heap.size v7 P0 ⟨0, 0, 0, 0⟩ HO3.out (by omega) HZ3.out w2.heap.size HN3.out) ?_; rintro v9 w9 ⟨ho9, hg9, hv9⟩; have HO9 := Lib.hid ho9; have HG9 := Lib.hid hg9; clear ho9 hg9 hv9))
            go_meet
            refine ⟨HO9.out, grown_block HG9.out HK3.out (own_ne HO3.out HK3.out (by decide)), (HB2.out.trans (HB3.out.mono HB2.out.size)).grown HG9.out (Nat.le_trans HB2.out.size HB3.out.size) (fun j e => (World.ownsRow.lt HO3.out j e).1)⟩
          | false =>
            go_wp2_with fail
            go_meet
            exact ⟨HOP.out, KB2.out, HB2.out⟩
          --FAST}
        case rest =>
          obtain ⟨hoP, hk3, hb3⟩ := hcut
          have hPs : (1 ≤ (encP gb P0).length ∧ (encP gb P0).length ≤ 256) ∧ ∀ c ∈ encP gb P0, c.ok := by
            cases gb with
            | true =>
              refine ⟨by simp [encP]; exact HPL2.out rfl, fun c hc => ?_⟩
              rcases List.mem_append.1 hc with h | h
              · exact (H8P.out c h).ok
              · rw [List.mem_singleton.1 h]
                exact ⟨⟨by decide, by decide⟩, ⟨by decide, by decide⟩, ⟨by decide, by decide⟩, ⟨by decide, by decide⟩⟩
            | false =>
              have hne := HNP.out ⟨0, by omega, goneB_false HGB.out (by omega)⟩
              have := List.length_pos_iff.2 hne
              exact ⟨⟨by simp [encP]; omega, by simp [encP]; omega⟩, fun c hc => (H8P.out c hc).ok⟩
          obtain ⟨⟨hPs1, hPs2⟩, hPok⟩ := hPs
          obtain ⟨qb, qc, rfl, hqc⟩ := own_form hoP (by omega)
          have HOP3 := Lib.hid hoP
          have HK3 := Lib.hid hk3
          have HB3 := Lib.hid hb3
          have e0 := (cell_of_row wc _ 0 _ _ (0, 0) hk3).trans (show _ = some (Value.int .i64 (W : Nat)) from rfl)
          have e1 := (cell_of_row wc _ 1 _ _ (0, 0) hk3).trans (show _ = some (Value.int .i64 (H : Nat)) from rfl)
          have e2 := (cell_of_row wc _ 2 _ _ (0, 0) hk3).trans (show _ = some (Value.slice (some ⟨pb, po, none⟩) n cap) from rfl)
          have hrP : RdC wc (some ⟨qb, 0, none⟩) (encP gb P0) := by
            obtain ⟨a, c, e, _, _, hr, _⟩ := OwnC.rd hoP
            injection e with e1 e2 e3
            subst e1
            exact hr
          have CA := apply_any (W : Int) (H : Int) (some ⟨pb, po, none⟩) n cap l wc (HS.out.below hb3) HG.out N HNN.out qb 0 qc (encP gb P0) hrP hPs1 hPs2 hPok
          obtain ⟨pn, hpn⟩ : ∃ m, (encP gb P0).length = m := ⟨_, rfl⟩
          rw [hpn] at CA hPs1 hPs2 hqc ⊢
          have HPN := Lib.hid hpn
          have HCA := Lib.hid CA
          have HPOK := Lib.hid hPok
          clear hoP hk3 hb3 CA hrP hPok hpn KB2 HB2 HOP
          go_wp2_with fail
          refine HCA.out.mono ?_
          rintro e w5 ⟨z, vp, vi, hz, rfl, hop5, hoi5, hb5⟩
          rw [show (cols l N).length = N by simp [cols]] at hoi5
          have hof := own_form hop5 (by have := HPN.out; omega)
          rw [HPN.out] at hof
          obtain ⟨pg, pc, rfl, _⟩ := hof
          obtain ⟨ig, ic, rfl, hic⟩ := own_form hoi5 (by omega)
          have HZ := Lib.hid hz
          have HB5 := Lib.hid (HB3.out.trans (hb5.mono HB3.out.size))
          have HOI5 := Lib.hid (World.ownsRow.mono hoi5 HB3.out.size)
          have HIG := Lib.hid (World.ownsRow.lt hoi5 ig rfl)
          have HK5 := Lib.hid ((hb5.block _ (block_lt HK3.out)).trans HK3.out)
          have HOP5 := Lib.hid (HOP3.out.below hb5)
          clear hz hop5 hoi5 hb5 HCA e0 e1 e2 HOP3 HK3
          go_upto_region 15 with (fail)
          have hnw := heap_alloc_new w5 (.cells #[.int .i64 (W : Nat), .int .i64 (H : Nat), .slice (some ⟨pg, 0, none⟩) pn pc, .slice (some ⟨ig, 0, none⟩) N ic] 40)
          have hB6 : Below w5.heap.size w5 (w5.alloc (.cells #[.int .i64 (W : Nat), .int .i64 (H : Nat), .slice (some ⟨pg, 0, none⟩) pn pc, .slice (some ⟨ig, 0, none⟩) N ic] 40)) := (Below.refl _ _).alloc (Nat.le_refl _) _
          obtain ⟨ab, hab⟩ : ∃ b, w5.heap.size = b := ⟨_, rfl⟩
          rw [hab] at hnw ⊢
          generalize w5.alloc (.cells #[.int .i64 (W : Nat), .int .i64 (H : Nat), .slice (some ⟨pg, 0, none⟩) pn pc, .slice (some ⟨ig, 0, none⟩) N ic] 40) = w6 at *
          have HAB := Lib.hid hnw
          have HB6 := Lib.hid (HB5.out.trans (hB6.mono HB5.out.size))
          have HOI6 := Lib.hid (ownsRow_below HOI5.out hB6)
          have HK6 := Lib.hid ((hB6.block _ (block_lt HK5.out)).trans HK5.out)
          have hop6 := HOP5.out.below hB6
          rw [HPN.out] at hop6
          have HOP6 := Lib.hid hop6
          clear hnw hB6 hab HOI5 HK5 HOP5 hop6
          go_upto_if 59 with (fail)
          go_cut [] from 13 to 209 (fun wx => wx.heap[ab]? = some (.cells #[.int .i64 (W : Nat), .int .i64 (H : Nat), .slice (some ⟨pg, 0, none⟩) pn pc, .slice (some ⟨ig, 0, none⟩) N ic] 40 (0, 0)) ∧
            wx.ownsRow w.heap.size 5 1 (.slice (some ⟨ig, 0, none⟩) N ic) N ((encX P0 l N).map (Value.int .u8)) ∧ wx.heap[ib]? = some (.cells #[.int .i64 (W : Nat), .int .i64 (H : Nat), .slice (some ⟨pb, po, none⟩) n cap] 24 (0, 0)) ∧
            OwnC w.heap.size wx (.slice (some ⟨qb, 0, none⟩) pn qc) (encP gb P0) ∧ Below w.heap.size w wx)
          case first =>
            cases gb with
            | false =>
              skip
              --FAST{
              have hX : idxs (encP false P0) z (cols l N) = encX P0 l N := encX_plain H8P.out HZ.out HGB.out
              have HX := Lib.hid hX
              clear hX
              go_wp2_with fail
              go_meet
              exact ⟨HAB.out, by rw [← HX.out]; exact HOI6.out, HK6.out, HOP6.out, HB6.out⟩
              --FAST}
            | true =>
              --FAST{
              have hz := none_clear H8P.out HZ.out
              have HZE := Lib.hid hz
              obtain ⟨pm, hpm⟩ : ∃ m, P0.length = m := ⟨_, rfl⟩
              have hpm1 : pn = pm + 1 := by have := HPN.out; simp [encP] at this; omega
              obtain ⟨er, her⟩ : ∃ e : Int, (if P0 = [] then 2 else 0) = e := ⟨_, rfl⟩
              have CA2 : Hid (∀ u, Below w6.heap.size w6 u → Calls Tryz.prog 10 #[.agg #[.int .i64 (W : Nat), .int .i64 (H : Nat), .slice (some ⟨pb, po, none⟩) n cap], .slice (some ⟨qb, 0, none⟩) pm qc] u fun e w' => ∃ sv, e = .returned (.tuple #[sv, .int .i64 er]) ∧ SolidR w6.heap.size P0 l N er sv w' ∧ Below u.heap.size u w') := Lib.hid (by
                intro u hu
                have hsl := HS.out.below (HB6.out.trans (hu.mono HB6.out.size))
                by_cases hnil : P0 = []
                · have hpm0 : pm = 0 := by rw [← hpm, hnil]; rfl
                  rw [hpm0, ← her, if_pos hnil]
                  refine (applyNone_any (W : Int) (H : Int) (some ⟨pb, po, none⟩) n cap l u hsl HG.out N HNN.out _ _).mono ?_
                  rintro e w' ⟨rfl, hb⟩
                  exact ⟨_, rfl, ⟨_, _, _, _, _, _, _, _, rfl, .inr ⟨rfl, hnil⟩⟩, hb⟩
                · have h1 := List.length_pos_iff.2 hnil
                  rw [← her, if_neg hnil]
                  have hrd : RdC u (some ⟨qb, 0, none⟩) P0 := by
                    obtain ⟨a, c, e, _, _, hr, _⟩ := OwnC.rd (HOP6.out.below hu)
                    injection e with e1 e2 e3
                    subst e1
                    exact RdC.left hr
                  have := apply_any (W : Int) (H : Int) (some ⟨pb, po, none⟩) n cap l u hsl HG.out N HNN.out qb 0 qc P0 hrd h1 (by omega) (fun c hc => (H8P.out c hc).ok)
                  rw [hpm] at this
                  refine this.mono ?_
                  rintro e w' ⟨z2, vp2, vi2, hz2, rfl, hop2, hoi2, hb⟩
                  rw [none_solid H8P.out hz2, show (cols l N).length = N by simp [cols]] at hoi2
                  obtain ⟨g1, c1, rfl, _⟩ := own_form hop2 h1
                  obtain ⟨g2, c2, rfl, _⟩ := own_form hoi2 (by omega)
                  exact ⟨_, rfl, ⟨_, _, _, _, _, _, _, _, rfl, .inl ⟨rfl, g2, rfl, rfl, World.ownsRow.mono hoi2 hu.size⟩⟩, hb⟩)
              have f0 := (cell_of_row w6 _ 0 _ _ (0, 0) HK6.out).trans (show _ = some (Value.int .i64 (W : Nat)) from rfl)
              have f1 := (cell_of_row w6 _ 1 _ _ (0, 0) HK6.out).trans (show _ = some (Value.int .i64 (H : Nat)) from rfl)
              have f2 := (cell_of_row w6 _ 2 _ _ (0, 0) HK6.out).trans (show _ = some (Value.slice (some ⟨pb, po, none⟩) n cap) from rfl)
              have hpmq : (pm : Int) ≤ (qc : Int) := by omega
              have HER := Lib.hid her
              have HPM := Lib.hid hpm
              have HPM1 := Lib.hid hpm1
              clear hz her hpm hpm1
              go_upto_region 16 with (fail)
              refine wp_region_store (D := fun i => ([61, 62, 63, 64, 65, 66, 67, 60, 68, 69, 11, 0, 12] : List Nat).getD i 0)
                (R := fun rj v w' => match rj with
                  | 0 => v = .agg #[.int .i64 (W : Nat), .int .i64 (H : Nat), .slice (some ⟨pb, po, none⟩) n cap]
                  | 1 => v = .slice (some ⟨qb, 0, none⟩) pn qc
                  | 2 => v = .slice (some ⟨qb, 0, none⟩) pn qc
                  | 3 => v = .int .i64 (pn : Nat)
                  | 4 => v = .int .i64 (pm : Nat)
                  | 5 => v = .slice (some ⟨qb, 0, none⟩) pm qc
                  | 6 => ∃ sv, v = .tuple #[sv, .int .i64 er] ∧ SolidR w6.heap.size P0 l N er sv w'
                  | 7 => ∃ sv, v = .tuple #[sv, .int .i64 er] ∧ SolidR w6.heap.size P0 l N er sv w'
                  | 8 => SolidR w6.heap.size P0 l N er v w'
                  | 9 => v = .int .i64 er
                  | 10 => ∃ b, v = .pointer (some ⟨b, 0, none⟩) ∧ w6.heap.size ≤ b ∧ w'.heap[b]? = some (.cells #[.int .i64 0, .int .i64 0, .slice none 0 0, .slice none 0 0] 40 (0, 0))
                  | 11 => True
                  | 12 => v = .int .i64 er
                  | _ => True)
                (R' := fun rj v w' => match rj with
                  | 0 => True
                  | 1 => True
                  | 2 => True
                  | 3 => True
                  | 4 => True
                  | 5 => True
                  | 6 => True
                  | 7 => ∃ sv, v = .tuple #[sv, .int .i64 er] ∧ SolidR w6.heap.size P0 l N er sv w'
                  | 8 => True
                  | 9 => v = .int .i64 er
                  | 10 => ∃ b cs, v = .pointer (some ⟨b, 0, none⟩) ∧ w6.heap.size ≤ b ∧ w'.heap[b]? = some (.cells cs 40 (0, 0)) ∧ SolidR w6.heap.size P0 l N er (.agg cs) w'
                  | 11 => True
                  | 12 => v = .int .i64 er
                  | _ => True)
                (S := fun a' w' => (a'.tmps[1]? = some (.pointer (some ⟨ib, 0, none⟩)) ∧ a'.tmps[7]? = some (.slice (some ⟨qb, 0, none⟩) pn qc)) ∧ Below w6.heap.size w6 w')
                11 [9, 12] (by decide) (by kernel_rfl) (by decide +kernel) (by kernel_rfl) (by decide +kernel) (by show 0 < 210; decide) (fun _ _ => trivial) ?_ ?_ ?_ ?_ ?_ ?_ ?_
              · intro i v u u' h hb
                match i, h with
                | 0, h => exact h
                | 1, h => exact h
                | 2, h => exact h
                | 3, h => exact h
                | 4, h => exact h
                | 5, h => exact h
                | 6, h => exact by obtain ⟨sv, h1, h2⟩ := h; exact ⟨sv, h1, h2.below hb⟩
                | 7, h => exact by obtain ⟨sv, h1, h2⟩ := h; exact ⟨sv, h1, h2.below hb⟩
                | 8, h => exact SolidR.below h hb
                | 9, h => exact h
                | 10, h => exact by obtain ⟨b, h1, h2, h3⟩ := h; exact ⟨b, h1, h2, (hb.block _ (block_lt h3)).trans h3⟩
                | 11, h => exact h
                | 12, h => exact h
                | i + 13, _ => trivial
              · intro i v u u' h hb
                match i, h with
                | 0, h => exact trivial
                | 1, h => exact trivial
                | 2, h => exact trivial
                | 3, h => exact trivial
                | 4, h => exact trivial
                | 5, h => exact trivial
                | 6, h => exact trivial
                | 7, h => exact by obtain ⟨sv, h1, h2⟩ := h; exact ⟨sv, h1, h2.below hb⟩
                | 8, h => exact trivial
                | 9, h => exact h
                | 10, h => exact by obtain ⟨b, cs, h1, h2, h3, h4⟩ := h; exact ⟨b, cs, h1, h2, (hb.block _ (block_lt h3)).trans h3, h4.below hb⟩
                | 11, h => exact trivial
                | 12, h => exact h
                | i + 13, _ => trivial
              · intro a' u hb _ hold
                exact ⟨⟨hold 1 (by decide), hold 7 (by decide)⟩, hb⟩
              · refine ⟨fun _ => ?_, fun _ => ?_, fun _ => ?_, fun _ => ?_, fun _ => ?_, fun _ => ?_, fun _ => ?_, fun _ => ?_, fun _ => ?_, fun _ => ?_, fun _ => ?_, fun h => absurd rfl h, fun _ => ?_, trivial⟩
                · intro a' u hS hd
                  clear hd
                  have g0 := hS.1.1
                  have x0 := keep_cell hS.2 f0
                  have x1 := keep_cell hS.2 f1
                  have x2 := keep_cell hS.2 f2
                  go_simp
                  exact ⟨_, rfl, rfl, Below.refl _ _⟩
                · intro a' u hS hd
                  clear hd
                  have g0 := hS.1.2
                  go_simp
                  exact ⟨_, rfl, rfl, Below.refl _ _⟩
                · intro a' u hS hd
                  clear hd
                  have g0 := hS.1.2
                  go_simp
                  exact ⟨_, rfl, rfl, Below.refl _ _⟩
                · intro a' u hS hd
                  obtain ⟨_, e0, rfl⟩ := hd 2 (by kernel_rfl)
                  have f0 : a'.tmps[63]? = some _ := e0
                  clear e0
                  clear hd
                  go_simp
                  exact ⟨_, rfl, rfl, Below.refl _ _⟩
                · intro a' u hS hd
                  obtain ⟨_, e0, rfl⟩ := hd 3 (by kernel_rfl)
                  have f0 : a'.tmps[64]? = some _ := e0
                  clear e0
                  clear hd
                  have e1 : IntKind.i64.wrap ((pn : Int) - 1) = (pm : Int) := by rw [show (pn : Int) - 1 = (pm : Int) by have := HPM1.out; omega]; exact IntWalk.i64_in _ (by have := HPM1.out; omega)
                  go_simp
                  exact ⟨_, rfl, rfl, Below.refl _ _⟩
                · intro a' u hS hd
                  obtain ⟨_, e0, rfl⟩ := hd 1 (by kernel_rfl)
                  have f0 : a'.tmps[62]? = some _ := e0
                  clear e0
                  obtain ⟨_, e1, rfl⟩ := hd 4 (by kernel_rfl)
                  have f1 : a'.tmps[65]? = some _ := e1
                  clear e1
                  clear hd
                  go_simp
                  exact ⟨_, rfl, rfl, Below.refl _ _⟩
                · intro a' u hS hd
                  obtain ⟨_, e0, rfl⟩ := hd 0 (by kernel_rfl)
                  have f0 : a'.tmps[61]? = some _ := e0
                  clear e0
                  obtain ⟨_, e1, rfl⟩ := hd 5 (by kernel_rfl)
                  have f1 : a'.tmps[66]? = some _ := e1
                  clear e1
                  clear hd
                  go_simp
                  refine (CA2.out u hS.2).mono ?_
                  rintro e u' ⟨sv, rfl, hs, hb⟩
                  exact ⟨_, rfl, ⟨sv, rfl, hs⟩, hb⟩
                · intro a' u hS hd
                  obtain ⟨_, e0, sv, rfl, hs⟩ := hd 6 (by kernel_rfl)
                  have x0 : a'.tmps[67]? = some _ := e0
                  have HSV := Lib.hid hs
                  clear hd e0 hs
                  go_simp
                  exact ⟨_, rfl, ⟨sv, rfl, HSV.out⟩, Below.refl _ _⟩
                · intro a' u hS hd
                  obtain ⟨_, e0, sv, rfl, hs⟩ := hd 7 (by kernel_rfl)
                  have x0 : a'.tmps[60]? = some _ := e0
                  have HSV := Lib.hid hs
                  clear hd e0 hs
                  go_simp
                  exact ⟨_, rfl, HSV.out, Below.refl _ _⟩
                · intro a' u hS hd
                  obtain ⟨_, e0, sv, rfl, hs⟩ := hd 7 (by kernel_rfl)
                  have x0 : a'.tmps[60]? = some _ := e0
                  clear hd e0 hs
                  go_simp
                  exact ⟨_, rfl, rfl, Below.refl _ _⟩
                · intro a' u hS hd
                  clear hd
                  go_simp
                  exact ⟨_, rfl, ⟨_, rfl, hS.2.size, heap_alloc_new _ _⟩, (Below.refl _ _).alloc (Nat.le_refl _) _⟩
                · intro a' u hS hd
                  obtain ⟨_, e0, rfl⟩ := hd 9 (by kernel_rfl)
                  have f0 : a'.tmps[69]? = some _ := e0
                  clear e0
                  clear hd
                  go_simp
                  exact ⟨_, rfl, rfl, Below.refl _ _⟩
              · refine ⟨fun h => absurd h (by decide), fun h => absurd h (by decide), fun h => absurd h (by decide), fun h => absurd h (by decide), fun h => absurd h (by decide), fun h => absurd h (by decide), fun h => absurd h (by decide), fun h => absurd h (by decide), fun h => absurd h (by decide), fun _ => ?_, fun h => absurd h (by decide), fun h => absurd h (by decide), fun _ => ?_, trivial⟩
                · intro a' u hS hd
                  obtain ⟨_, e0, sv, rfl, hs⟩ := hd 7 (by kernel_rfl)
                  have x0 : a'.tmps[60]? = some _ := e0
                  clear hd e0 hs
                  go_simp
                  exact ⟨_, rfl, rfl, Below.refl _ _⟩
                · intro a' u hS hd
                  obtain ⟨_, e0, rfl⟩ := hd 9 (by kernel_rfl)
                  have f0 : a'.tmps[69]? = some _ := e0
                  clear e0
                  clear hd
                  go_simp
                  exact ⟨_, rfl, rfl, Below.refl _ _⟩
              · intro o a' u ho hS hd
                cases ho
                obtain ⟨_, e8, hsv⟩ := hd 8 (by decide) (by unfold Waits; kernel_rfl)
                obtain ⟨_, e10, b, rfl, hbl, hbh⟩ := hd 10 (by decide) (by unfold Waits; kernel_rfl)
                have hsv0 := hsv
                obtain ⟨sa, sb, ha, na, ca, hb', nb', cb', rfl, hor⟩ := hsv
                have hgr := grownBy_setRow u b #[.int .i64 sa, .int .i64 sb, .slice ha na ca, .slice hb' nb' cb']
                have hrow : ∀ r, some b = some r → ∃ cs, u.heap[r]? = some (.cells cs 40 (0, 0)) := fun r e => by cases e; exact ⟨_, hbh⟩
                refine wp_store_row _ _ _ rfl b _ (eval_tmp (t := 11) e10) (eval_tmp (t := 68) e8) 40 _ hbh (palSize4 _ _ _ _) rfl (by simp [Value.oneCell']) ⟨rfl, below_setRow (Below.refl _ _) hbl _, fun i v hi hv hR => ?_⟩
                match i, hR with
                | 0, h => trivial
                | 1, h => trivial
                | 2, h => trivial
                | 3, h => trivial
                | 4, h => trivial
                | 5, h => trivial
                | 6, h => trivial
                | 7, h => obtain ⟨sv, h1, h2⟩ := h; exact ⟨sv, h1, h2.grown hgr hrow⟩
                | 8, h => trivial
                | 9, h => exact h
                | 10, h => exact ⟨b, _, Option.some.inj (hv.symm.trans e10), hbl, setRow_heap u b _ _ _ _ hbh, hsv0.grown hgr hrow⟩
                | 11, h => trivial
                | 12, h => exact h
                | i + 13, _ => trivial
              · intro a' w7 h
                obtain ⟨_, e11, sb, scs, rfl, hsb, hsc, hsr⟩ := h.new 10 (by decide) (by decide) (by decide +kernel)
                replace e11 : a'.tmps[11]? = some (.pointer (some ⟨sb, 0, none⟩)) := e11
                obtain ⟨_, e12, rfl⟩ := h.new 12 (by decide) (by decide) (by decide +kernel)
                replace e12 : a'.tmps[12]? = some (.int .i64 er) := e12
                have e0 : a'.tmps[0]? = some (.agg #[.int .i64 (W : Nat), .int .i64 (H : Nat), .slice (some ⟨pb, po, none⟩) n cap]) := h.old 0 (by decide)
                have e1 : a'.tmps[1]? = some (.pointer (some ⟨ib, 0, none⟩)) := h.old 1 (by decide)
                have e2 : a'.tmps[2]? = some (.slice none 0 0) := h.old 2 (by decide)
                have e3 : a'.tmps[3]? = some (.int .i64 0) := h.old 3 (by decide)
                have e4 : a'.tmps[4]? = some (.bool true) := h.old 4 (by decide)
                have e5 : a'.tmps[5]? = some (.int .i64 (ii : Nat)) := h.old 5 (by decide)
                have e6 : a'.tmps[6]? = some (.int .i64 (most : Nat)) := h.old 6 (by decide)
                have e7 : a'.tmps[7]? = some (.slice (some ⟨qb, 0, none⟩) pn qc) := h.old 7 (by decide)
                have e8 : a'.tmps[8]? = some (.int .i64 0) := h.old 8 (by decide)
                have e9 : a'.tmps[9]? = some (.pointer (some ⟨ab, 0, none⟩)) := h.old 9 (by decide)
                have e10 : a'.tmps[10]? = some (.int .i64 0) := h.old 10 (by decide)
                have hsz : a'.tmps.size = 210 := h.size
                have hdf : a'.defers = [] := h.defers
                have hbu := h.below
                clear h
                obtain ⟨fw, hf⟩ : ∃ f : Nat → Value, (fun i => a'.tmps.getD i undef) = f := ⟨_, rfl⟩
                have htm := slots_210 hsz
                replace e11 : (fun i => a'.tmps.getD i undef) 11 = _ := slot_of e11
                replace e12 : (fun i => a'.tmps.getD i undef) 12 = _ := slot_of e12
                replace e0 : (fun i => a'.tmps.getD i undef) 0 = _ := slot_of e0
                replace e1 : (fun i => a'.tmps.getD i undef) 1 = _ := slot_of e1
                replace e2 : (fun i => a'.tmps.getD i undef) 2 = _ := slot_of e2
                replace e3 : (fun i => a'.tmps.getD i undef) 3 = _ := slot_of e3
                replace e4 : (fun i => a'.tmps.getD i undef) 4 = _ := slot_of e4
                replace e5 : (fun i => a'.tmps.getD i undef) 5 = _ := slot_of e5
                replace e6 : (fun i => a'.tmps.getD i undef) 6 = _ := slot_of e6
                replace e7 : (fun i => a'.tmps.getD i undef) 7 = _ := slot_of e7
                replace e8 : (fun i => a'.tmps.getD i undef) 8 = _ := slot_of e8
                replace e9 : (fun i => a'.tmps.getD i undef) 9 = _ := slot_of e9
                replace e10 : (fun i => a'.tmps.getD i undef) 10 = _ := slot_of e10
                simp only [congrFun hf] at htm e11 e12 e0 e1 e2 e3 e4 e5 e6 e7 e8 e9 e10
                obtain ⟨tmps, defers⟩ := a'
                simp only at hdf htm
                subst hdf
                rw [htm]
                clear htm hf hsz
                rw [e11, e12, e0, e1, e2, e3, e4, e5, e6, e7, e8, e9, e10]
                clear e11 e12 e0 e1 e2 e3 e4 e5 e6 e7 e8 e9 e10
                obtain ⟨sa, sbb, ha, na, ca, hb', nb', cb', hscs, hor⟩ := hsr
                cases hscs
                have HOR := Lib.hid (show SolidR w6.heap.size P0 l N er (.agg #[.int .i64 sa, .int .i64 sbb, .slice ha na ca, .slice hb' nb' cb']) w7 from ⟨_, _, _, _, _, _, _, _, rfl, hor⟩)
                have HSC := Lib.hid hsc
                have HAB7 := Lib.hid ((hbu.block _ (block_lt HAB.out)).trans HAB.out)
                have HOI7 := Lib.hid (ownsRow_below HOI6.out hbu)
                have HK7 := Lib.hid ((hbu.block _ (block_lt HK6.out)).trans HK6.out)
                have HOP7 := Lib.hid (HOP6.out.below hbu)
                have HB7 := Lib.hid (HB6.out.trans (hbu.mono HB6.out.size))
                have hig6 : ig < w6.heap.size := (World.ownsRow.lt HOI6.out ig rfl).2
                have g3 := (cell_of_row w7 _ 3 _ _ (0, 0) HAB7.out).trans (show _ = some (Value.slice (some ⟨ig, 0, none⟩) N ic) from rfl)
                clear hor hsc hbu f0 f1 f2 CA2
                go_wp2_with fail
                go_loopg [73] N (fun gk s73 wr => ∃ i : Nat, i ≤ N ∧ gk = N - i ∧ s73 = .int .i64 (i : Nat) ∧ wr.heap[ab]? = some (.cells #[.int .i64 (W : Nat), .int .i64 (H : Nat), .slice (some ⟨pg, 0, none⟩) pn pc, .slice (some ⟨ig, 0, none⟩) N ic] 40 (0, 0)) ∧
                  wr.ownsRow w.heap.size 5 1 (.slice (some ⟨ig, 0, none⟩) N ic) N ((mixL (encX P0 l N) (idxs (encP true P0) z (cols l N)) i).map (Value.int .u8)) ∧ wr.heap[ib]? = some (.cells #[.int .i64 (W : Nat), .int .i64 (H : Nat), .slice (some ⟨pb, po, none⟩) n cap] 24 (0, 0)) ∧
                  OwnC w.heap.size wr (.slice (some ⟨qb, 0, none⟩) pn qc) (encP true P0) ∧ wr.heap[sb]? = some (.cells #[.int .i64 sa, .int .i64 sbb, .slice ha na ca, .slice hb' nb' cb'] 40 (0, 0)) ∧
                  SolidR w6.heap.size P0 l N er (.agg #[.int .i64 sa, .int .i64 sbb, .slice ha na ca, .slice hb' nb' cb']) wr ∧ Below w.heap.size w wr)
                case atStart => exact ⟨0, Nat.zero_le _, rfl, by go_num, HAB7.out, by rw [mixL_zero]; exact HOI7.out, HK7.out, HOP7.out, HSC.out, HOR.out, HB7.out⟩
                case round =>
                  obtain ⟨i, hi, hgk, rfl, hab, hoi, hk, hop, hsc, hor, hbw⟩ := hrel
                  have Hg := Lib.hid hgk
                  have HAR := Lib.hid hab
                  have HOIR := Lib.hid hoi
                  have HKR := Lib.hid hk
                  have HOPR := Lib.hid hop
                  have HSCR := Lib.hid hsc
                  have HORR := Lib.hid hor
                  have HBR := Lib.hid hbw
                  have hFl : (idxs (encP true P0) z (cols l N)).length = N := by simp [idxs, cols]
                  have hXl := encX_length P0 l N
                  clear hgk hab hoi hk hop hsc hor hbw g3
                  by_cases hlt : i < N
                  · obtain ⟨_, _, ee, hcell⟩ := (HS.out.below HBR.out).cells (by have := HNN.out; omega)
                    cases ee
                    have ka := hcell (4 * i + 3) (by have := HNN.out; omega)
                    rw [show l.getD (4 * i + 3) 0 = (pix l i).a from rfl] at ka
                    have hfit := HS.out.fits
                    have hi1 : ((4 * i + 3 : Nat) : Int) < (n : Int) := by have := HNN.out; omega
                    have hi3 : ¬ cap = 4 * i + 3 := by have := HNN.out; omega
                    have hiN : (i : Int) < (N : Int) := by omega
                    have hi5 : (4 : Int) * (i : Int) + 3 < (n : Int) := by omega
                    have hpl2 := (cell_of_row wr _ 2 _ _ (0, 0) HKR.out).trans (show _ = some (Value.slice (some ⟨pb, po, none⟩) n cap) from rfl)
                    obtain ⟨al, hal⟩ : ∃ x, (pix l i).a = x := ⟨_, rfl⟩
                    rw [hal] at ka
                    have HAL := Lib.hid hal
                    clear hcell hal
                    by_cases hcond : er = 0 ∧ 32768 ≤ al
                    · obtain ⟨rfl, hal2⟩ := hcond
                      obtain ⟨g2, rfl, rfl, hso⟩ : ∃ g2, hb' = some ⟨g2, 0, none⟩ ∧ N = nb' ∧ wr.ownsRow w6.heap.size 5 1 (.slice (some ⟨g2, 0, none⟩) N cb') N ((idxs P0 (-1) (cols l N)).map (Value.int .u8)) := by
                        obtain ⟨_, _, _, _, _, _, _, _, ee, h⟩ := HORR.out
                        cases ee
                        rcases h with ⟨_, g, h1, h2, h3⟩ | ⟨h1, _⟩
                        · exact ⟨g, h1, h2.symm, h3⟩
                        · exact absurd h1 (by decide)
                      have HSO := Lib.hid hso
                      have g3 := (cell_of_row wr _ 3 _ _ (0, 0) HAR.out).trans (show _ = some (Value.slice (some ⟨ig, 0, none⟩) N ic) from rfl)
                      have s3 := (cell_of_row wr _ 3 _ _ (0, 0) HSCR.out).trans (show _ = some (Value.slice (some ⟨g2, 0, none⟩) N cb') from rfl)
                      obtain ⟨cur2, hc2, hcu2, _, _⟩ := own_cur hso hlt
                      obtain ⟨cur1, hc1, hcu1, _, _⟩ := own_cur HOIR.out hlt
                      obtain ⟨y, hyy⟩ : ∃ y, (idxs P0 (-1) (cols l N)).getD i 0 = y := ⟨_, rfl⟩
                      rw [hyy] at hcu2
                      have hy := (cell_of_row wr g2 i _ _ (0, 0) hc2).trans hcu2
                      have HC1 := Lib.hid hc1
                      have HCU1 := Lib.hid hcu1
                      have HYY := Lib.hid hyy
                      clear hso hc2 hcu2 hc1 hcu1 hyy
                      go_upto_region 21 with (fail)
                      refine wp_region_any (by kernel_rfl) ?_
                      refine wpAny_laid_tails (D := fun i => ([88, 89, 90, 91, 92, 93, 94, 95, 96] : List Nat).getD i 0)
                        (R := fun rj v w' => match rj with
                          | 0 => v = .pointer (some ⟨ab, 3, none⟩)
                          | 1 => v = .slice (some ⟨ig, 0, none⟩) N ic
                          | 2 => v = .int .i64 (i : Nat)
                          | 3 => v = .pointer (some ⟨sb, 3, none⟩)
                          | 4 => v = (.slice (some ⟨g2, 0, none⟩) N cb')
                          | 5 => v = .int .i64 (i : Nat)
                          | 6 => v = .pointer (some ⟨g2, i, none⟩)
                          | 7 => v = .int .u8 y
                          | 8 => v = .pointer (some ⟨ig, i, none⟩)
                          | _ => True)
                        (S := fun a' w' => (a'.tmps[9]? = some (.pointer (some ⟨ab, 0, none⟩)) ∧ a'.tmps[11]? = some (.pointer (some ⟨sb, 0, none⟩)) ∧ a'.tmps[13]? = some (.int .i64 (i : Nat))) ∧ Below wr.heap.size wr w')
                        9 (by decide) (by kernel_rfl) (by decide +kernel) (by decide +kernel) (by decide +kernel) (by decide +kernel) (by kernel_rfl) ?_ ?_ ?_ ?_
                      · intro i v u u' h hb
                        match i, h with
                        | 0, h => exact h
                        | 1, h => exact h
                        | 2, h => exact h
                        | 3, h => exact h
                        | 4, h => exact h
                        | 5, h => exact h
                        | 6, h => exact h
                        | 7, h => exact h
                        | 8, h => exact h
                        | i + 9, _ => trivial
                      · intro a' u hb _ hold
                        exact ⟨⟨hold 9 (by decide), hold 11 (by decide), hold 13 (by decide)⟩, hb⟩
                      · refine ⟨?_, ?_, ?_, ?_, ?_, ?_, ?_, ?_, ?_, trivial⟩
                        · intro a' u hS hd
                          clear hd
                          have g0 := hS.1.1
                          go_simp
                          exact ⟨_, rfl, rfl, Below.refl _ _⟩
                        · intro a' u hS hd
                          obtain ⟨_, e0, rfl⟩ := hd 0 (by kernel_rfl)
                          have f0 : a'.tmps[88]? = some _ := e0
                          clear e0
                          clear hd
                          have x0 := keep_cell hS.2 g3
                          go_simp
                          exact ⟨_, rfl, rfl, Below.refl _ _⟩
                        · intro a' u hS hd
                          clear hd
                          have g0 := hS.1.2.2
                          go_simp
                          exact ⟨_, rfl, rfl, Below.refl _ _⟩
                        · intro a' u hS hd
                          clear hd
                          have g0 := hS.1.2.1
                          go_simp
                          exact ⟨_, rfl, rfl, Below.refl _ _⟩
                        · intro a' u hS hd
                          obtain ⟨_, e0, rfl⟩ := hd 3 (by kernel_rfl)
                          have f0 : a'.tmps[91]? = some _ := e0
                          clear e0
                          clear hd
                          have x0 := keep_cell hS.2 s3
                          go_simp
                          exact ⟨_, rfl, rfl, Below.refl _ _⟩
                        · intro a' u hS hd
                          clear hd
                          have g0 := hS.1.2.2
                          go_simp
                          exact ⟨_, rfl, rfl, Below.refl _ _⟩
                        · intro a' u hS hd
                          obtain ⟨_, e0, rfl⟩ := hd 4 (by kernel_rfl)
                          have f0 : a'.tmps[92]? = some _ := e0
                          clear e0
                          obtain ⟨_, e1, rfl⟩ := hd 5 (by kernel_rfl)
                          have f1 : a'.tmps[93]? = some _ := e1
                          clear e1
                          clear hd
                          go_simp
                          exact ⟨_, rfl, rfl, Below.refl _ _⟩
                        · intro a' u hS hd
                          obtain ⟨_, e0, rfl⟩ := hd 6 (by kernel_rfl)
                          have f0 : a'.tmps[94]? = some _ := e0
                          clear e0
                          clear hd
                          have x0 := keep_cell hS.2 hy
                          go_simp
                          exact ⟨_, rfl, rfl, Below.refl _ _⟩
                        · intro a' u hS hd
                          obtain ⟨_, e0, rfl⟩ := hd 1 (by kernel_rfl)
                          have f0 : a'.tmps[89]? = some _ := e0
                          clear e0
                          obtain ⟨_, e1, rfl⟩ := hd 2 (by kernel_rfl)
                          have f1 : a'.tmps[90]? = some _ := e1
                          clear e1
                          clear hd
                          go_simp
                          exact ⟨_, rfl, rfl, Below.refl _ _⟩
                      · intro a' w8 h
                        obtain ⟨_, e95, rfl⟩ := h.new 7 (by decide) (by decide +kernel)
                        replace e95 : a'.tmps[95]? = some (.int .u8 y) := e95
                        obtain ⟨_, e96, rfl⟩ := h.new 8 (by decide) (by decide +kernel)
                        replace e96 : a'.tmps[96]? = some (.pointer (some ⟨ig, i, none⟩)) := e96
                        have htm := tmps_set h.size [88, 89, 90, 91, 92, 93, 94, 95, 96] (fun d hd => h.old d (fun i hi e => hd (by rw [← e]; exact mem_getD hi)))
                        have hdf : a'.defers = [] := h.defers
                        have hbu := h.below
                        clear h
                        obtain ⟨fx, hf⟩ : ∃ f : Nat → Value, (fun i => a'.tmps.getD i undef) = f := ⟨_, rfl⟩
                        replace e95 : (fun i => a'.tmps.getD i undef) 95 = _ := slot_of e95
                        replace e96 : (fun i => a'.tmps.getD i undef) 96 = _ := slot_of e96
                        have hff : ∀ i, a'.tmps.getD i undef = fx i := fun i => congrFun hf i
                        simp only [hff] at e95 e96
                        simp only [List.foldl_cons, List.foldl_nil, hff] at htm
                        obtain ⟨tmps, defers⟩ := a'
                        dsimp only at hdf htm
                        subst hdf
                        rw [htm, e95, e96]
                        clear htm hf hff e95 e96
                        have hig : w8.heap[ig]? = some (.cells cur1 5 (0, 0)) := (hbu.block _ (block_lt HC1.out)).trans HC1.out
                        have HBU := Lib.hid hbu
                        have HIG8 := Lib.hid hig
                        have kc := (cell_of_row w8 ig i _ _ (0, 0) hig).trans HCU1.out
                        have kf := frozen_of_row w8 ig i _ _ hig
                        clear hbu hig g3 s3 hy ka hpl2
                        go_wp2_with fail
                        go_roundg (N - (i + 1))
                        case measure => have := Hg.out; omega
                        case rel =>
                          have k1 := grownBy_setCell3 w8 ig i (.int .u8 y)
                          have hyX : y = (encX P0 l N).getD i 0 := by
                            rw [encX_get P0 hlt, ← HYY.out, idxs_get _ _ hlt]
                            unfold idxOf encIdx
                            rw [if_neg (by omega), if_neg (by rw [HAL.out]; omega)]
                          have hset : (mixL (encX P0 l N) (idxs (encP true P0) z (cols l N)) i).set i y = mixL (encX P0 l N) (idxs (encP true P0) z (cols l N)) (i + 1) := by rw [hyX]; exact mixL_set hXl hFl hlt
                          have hoi8 := own_put (k := i) y (ownsRow_below HOIR.out HBU.out) hlt
                          rw [hset] at hoi8
                          have up : ∀ {j : Nat} {cs : Array Value} {t : TypeId}, wr.heap[j]? = some (.cells cs t (0, 0)) → t ≠ 5 → (w8.setCell ⟨ig, i, none⟩ (.int .u8 y)).heap[j]? = some (.cells cs t (0, 0)) := by
                            intro j cs t h1 h2
                            have h3 := (HBU.out.block _ (block_lt h1)).trans h1
                            refine grown_block k1 h3 fun e => ?_
                            cases Option.some.inj e
                            have h4 := HIG8.out
                            rw [h3] at h4
                            simp only [Option.some.injEq, Obj.cells.injEq] at h4
                            exact h2 h4.2.1
                          have hop8 := World.ownsRow.kept (ownsRow_below HOPR.out HBU.out) k1 (.inr fun e => own_ne (ownsRow_below HOPR.out HBU.out) HIG8.out (by decide) e.symm)
                          have hso8 := World.ownsRow.kept (ownsRow_below HSO.out HBU.out) k1 (.inr (by intro e; have h1 : g2 = ig := Option.some.inj e; have h2 := (World.ownsRow.lt HSO.out g2 rfl).1; omega))
                          have hb8 := (HBR.out.trans (HBU.out.mono HBR.out.size)).setCell (p := ⟨ig, i, none⟩) (World.ownsRow.lt HOIR.out ig rfl).1 (.int .u8 y)
                          exact ⟨i + 1, by omega, rfl, by go_num, up HAR.out (by decide), hoi8, up HKR.out (by decide), hop8, up HSCR.out (by decide), ⟨_, _, _, _, _, _, _, _, rfl, .inl ⟨rfl, g2, rfl, rfl, hso8⟩⟩, hb8⟩
                    · have hsame : mixL (encX P0 l N) (idxs (encP true P0) z (cols l N)) i = mixL (encX P0 l N) (idxs (encP true P0) z (cols l N)) (i + 1) := by
                        refine mixL_same hXl hFl hlt ?_
                        rw [encX_get P0 hlt, idxs_get _ _ hlt]
                        have hcl : (pix l i).a < 32768 := by
                          by_cases h' : (pix l i).a < 32768
                          · exact h'
                          · exfalso
                            have h := Int.not_lt.1 h'
                            have hne := HNP.out ⟨i, hlt, h⟩
                            have h1 := HER.out
                            rw [if_neg hne] at h1
                            exact hcond ⟨h1.symm, by rw [← HAL.out]; exact h⟩
                        unfold encIdx idxOf
                        rw [if_pos hcl, if_pos ⟨by have := HZE.out; omega, hcl⟩, HZE.out]
                      have HSAME := Lib.hid hsame
                      clear hsame
                      by_cases her0 : er = 0
                      · have hal3 : ¬ 32768 ≤ al := fun h => hcond ⟨her0, h⟩
                        subst her0
                        clear hcond
                        go_wp2_with fail
                        go_roundg (N - (i + 1))
                        case measure => have := Hg.out; omega
                        case rel => exact ⟨i + 1, by omega, rfl, by go_num, HAR.out, by rw [← HSAME.out]; exact HOIR.out, HKR.out, HOPR.out, HSCR.out, HORR.out, HBR.out⟩
                      · clear hcond
                        go_wp2_with fail
                        go_roundg (N - (i + 1))
                        case measure => have := Hg.out; omega
                        case rel => exact ⟨i + 1, by omega, rfl, by go_num, HAR.out, by rw [← HSAME.out]; exact HOIR.out, HKR.out, HOPR.out, HSCR.out, HORR.out, HBR.out⟩
                  · have hiN : i = N := by omega
                    rw [hiN] at HOIR
                    rw [hiN]
                    rw [mixL_all hXl hFl] at HOIR
                    go_wp2_with fail
                    go_meet
                    exact ⟨HAR.out, HOIR.out, HKR.out, HOPR.out, HBR.out⟩
              --FAST}
          case rest =>
            obtain ⟨hab, hoi, hk, hop, hbw⟩ := hcut
            have HABA := Lib.hid hab
            have HOIA := Lib.hid hoi
            have HKA := Lib.hid hk
            have HOPA := Lib.hid hop
            have HBA := Lib.hid hbw
            clear hab hoi hk hop hbw HAB HOI6 HK6 HOP6 HB6 HZ
            generalize wc = wA at *
            go_wp2_with fail
            go_loopg [14] 7 (fun gk s14 wr => wr = wA ∧ ∃ sz : Nat, 1 ≤ sz ∧ sz ≤ 8 ∧ gk = 8 - sz ∧ s14 = .int .i64 (sz : Nat))
            case atStart => exact ⟨rfl, 1, by omega, by omega, rfl, by go_num⟩
            case round =>
              obtain ⟨rfl, sz, hs1, hs8, hgk, rfl⟩ := hrel
              have Hg := Lib.hid hgk
              clear hgk
              obtain ⟨p2, hp2⟩ : ∃ p2, 2 ^ sz = p2 := ⟨_, rfl⟩
              have hp3 : sz = 8 → p2 = 256 := by intro e; rw [← hp2, e]
              have hle : p2 ≤ 256 := by
                have : 2 ^ sz ≤ 2 ^ 8 := Nat.pow_le_pow_right (by decide) hs8
                omega
              have p1 : IntKind.i64.wrap (2 ^ sz) = (p2 : Int) := by
                have e1 : ((2 : Int) ^ sz) = (p2 : Int) := by rw [← hp2]; simp
                rw [e1]
                exact IntWalk.i64_in _ (by omega)
              have HP2 := Lib.hid hp2
              clear hp2
              by_cases hlt : p2 < pn
              · have hlt2 : (p2 : Int) < (pn : Int) := by omega
                have hs7 : sz ≤ 7 := by
                  rcases Nat.lt_or_ge sz 8 with h | h
                  · omega
                  · have := hp3 (by omega)
                    omega
                go_wp2_with fail
                go_roundg (8 - (sz + 1))
                case measure => have := Hg.out; omega
                case rel => exact ⟨rfl, sz + 1, by omega, by omega, rfl, by go_num⟩
              · have hlt2 : ¬ ((p2 : Int) < (pn : Int)) := by omega
                have HFIT : Hid (pn ≤ p2) := Lib.hid (by omega)
                clear Hg hlt hp3
                have kc := fun (w : World) (C : Array Value) (n c : Nat) => Lib.run_convert_bytes_const (P := Tryz.prog) w 26 5 C n c Tryz.underlying26 Tryz.underlying5
                go_upto_region 28 with (fail)
                obtain ⟨q1, q2⟩ := heap2 wr (.cells #[.int .u8 71, .int .u8 73, .int .u8 70, .int .u8 56, .int .u8 57, .int .u8 97] 5 (6, 7)) (.cells #[.slice (some ⟨wr.heap.size, 0, none⟩) 6 6] 26)
                have hB1 : Below wr.heap.size wr ((wr.alloc (.cells #[.int .u8 71, .int .u8 73, .int .u8 70, .int .u8 56, .int .u8 57, .int .u8 97] 5 (6, 7))).alloc (.cells #[.slice (some ⟨wr.heap.size, 0, none⟩) 6 6] 26)) := ((Below.refl _ _).alloc (Nat.le_refl _) _).alloc (by simp) _
                generalize (wr.alloc (.cells #[.int .u8 71, .int .u8 73, .int .u8 70, .int .u8 56, .int .u8 57, .int .u8 97] 5 (6, 7))).alloc (.cells #[.slice (some ⟨wr.heap.size, 0, none⟩) 6 6] 26) = v1 at *
                have hA : OutAt wr wr.heap.size [] (wr.heap.size + 1) := ⟨Nat.le_succ _, Nat.le_refl _, fun p hp => by simp at hp, by decide⟩
                have HZ0 := Lib.hid (show OutZero wr wr.heap.size [] (wr.heap.size + 1) wr.heap.size v1 from ⟨fun p hp => by simp at hp, q2, q1, hB1, hB1.size⟩)
                have HA := Lib.hid hA
                obtain ⟨ob, hob⟩ : ∃ b, wr.heap.size + 1 = b := ⟨_, rfl⟩
                rw [hob] at HA HZ0 ⊢
                have HOB := Lib.hid hob
                have i0 := (cell_of_row wr _ 0 _ _ (0, 0) HKA.out).trans (show _ = some (Value.int .i64 (W : Nat)) from rfl)
                have i1 := (cell_of_row wr _ 1 _ _ (0, 0) HKA.out).trans (show _ = some (Value.int .i64 (H : Nat)) from rfl)
                have I0 := Lib.hid i0
                have I1 := Lib.hid i1
                have j0 := keep_cell hB1 i0
                clear kc q1 q2 hB1 hA hob i0 i1
                go_wp2_with fail
                refine (twoFirst_any HA.out HZ0.out W (by omega)).mono ?_
                rintro e v2 ⟨rfl, ho2⟩
                have HO2 := Lib.hid ho2
                have j1 := keep_cell ho2.below I1.out
                clear ho2 j0 HZ0
                go_wp2_with fail
                refine (two_any HA.out HO2.out H (by omega) (by simp [gif6, two]) HO2.out.below.size).mono ?_
                rintro e v3 ⟨rfl, ho3⟩
                have HO3 := Lib.hid ho3
                obtain ⟨vo, hbo, _⟩ := ho3.box
                have HBO := Lib.hid hbo
                have k0 := (cell_of_row _ _ 0 _ _ (0, 0) hbo).trans (show _ = some vo from rfl)
                have hor : bits .or .i64 128 (sz : Int) = 128 + (sz : Int) := by
                  have h1 := gr.i64_or 128 sz (by omega) (by omega)
                  have h2 : (128 ||| sz) = 128 + sz := by
                    have : sz = 1 ∨ sz = 2 ∨ sz = 3 ∨ sz = 4 ∨ sz = 5 ∨ sz = 6 ∨ sz = 7 ∨ sz = 8 := by omega
                    rcases this with rfl | rfl | rfl | rfl | rfl | rfl | rfl | rfl <;> rfl
                  rw [h2] at h1
                  push_cast at h1
                  exact h1
                have hszi : (1 : Int) ≤ (sz : Int) ∧ (sz : Int) ≤ 8 := by omega
                clear ho3 hbo j1 HO2
                obtain ⟨L3, hL3⟩ : ∃ L, gif6 ++ two W ++ two H = L := ⟨_, rfl⟩
                have hl3 : L3.length = 10 := by rw [← hL3]; rfl
                rw [hL3] at HO3
                have HL3 := Lib.hid hL3
                have hbs3 : wr.heap.size ≤ v3.heap.size := HO3.out.below.size
                have hd4 : sm.Bytes [128 + (sz : Int) - 1, 0, 0] := by
                  intro x hx
                  simp only [List.mem_cons, List.not_mem_nil, or_false] at hx
                  rcases hx with rfl | rfl | rfl <;> omega
                clear hL3
                go_upto_region 31 with (at_builtin; go_must (refine wpList_of_append rfl (.tmp 116) (.tmp 121) 26 26 rfl (outLit _ HA.out HO3.out HBO.out #[.int .u8 (128 + (sz : Int) - 1), .int .u8 0, .int .u8 0] 3 [128 + (sz : Int) - 1, 0, 0] rfl rfl hd4 (by omega) (by omega) hbs3 _ rfl) ?_; rintro v9 w9 ⟨b9, n9, c9, rfl, hm9, hI9, hk9⟩; have HI9 := Lib.hid hI9; have k9 := (cell_of_row w9 _ 0 _ _ (0, 0) hm9).trans (show _ = some vo from rfl); have kf := frozen_of_row w9 _ 0 _ _ hm9; clear hI9 hk9 hm9))
                obtain ⟨L4, hL4⟩ : ∃ L, L3 ++ [128 + (sz : Int) - 1, 0, 0] = L := ⟨_, rfl⟩
                rw [hL4] at HI9
                have HL4 := Lib.hid hL4
                have hl4 : L4.length = 13 := by rw [← hL4, List.length_append, hl3]; rfl
                generalize w9.setCell ⟨ob, 0, none⟩ (.slice (some ⟨b9, 0, none⟩) n9 c9) = w4 at *
                clear hL4 k9 kf k0 HO3 HBO hor hd4 hl3 hbs3
                go_wp2_with fail
                generalize wr = wA at *
                go_loopg [125] p2 (fun gk s125 wx => ∃ i : Nat, i ≤ p2 ∧ gk = p2 - i ∧ s125 = .int .i64 (i : Nat) ∧ OutI wA wA.heap.size [] ob (L4 ++ palBytes (encP gb P0) i) wx)
                case atStart => exact ⟨0, Nat.zero_le _, rfl, by go_num, by simpa [palBytes] using HI9.out⟩
                case round =>
                  obtain ⟨i, hi, hgk, rfl, hox⟩ := hrel
                  have Hg := Lib.hid hgk
                  have HOX := Lib.hid hox
                  clear hgk hox
                  by_cases hip : i < p2
                  · skip
                    --FAST{
                    have hip2 : (i : Int) < (p2 : Int) := by omega
                    have hop := HOPA.out.below HOX.out.below
                    obtain ⟨_, _, ee, _, _, hrd, _⟩ := OwnC.rd hop
                    rcases hrd with h0 | ⟨_, _, ee2, hcell⟩
                    · exfalso
                      have := HPN.out
                      rw [h0] at this
                      simp at this
                      omega
                    injection ee with e1 e2 e3
                    rw [← e1] at ee2
                    cases ee2
                    clear e1 e2 e3
                    rw [HPN.out] at hcell
                    obtain ⟨a0, a1, a2, a3⟩ := hcell 0 (by omega)
                    obtain ⟨cz, hcz⟩ : ∃ c, (encP gb P0).getD 0 C4.zero = c := ⟨_, rfl⟩
                    rw [hcz] at a0 a1 a2 a3
                    rw [show 0 + 0 * 4 = 0 by omega] at a0 a1 a2 a3
                    have HCZ := Lib.hid hcz
                    have HCELL := Lib.hid hcell
                    have hpn0 : (0 : Int) < (pn : Int) := by omega
                    clear hop hcz hcell
                    go_upto_region 35 with (fail)
                    have hnc := heap_alloc_new wr (.cells #[.int .u16 cz.r, .int .u16 cz.g, .int .u16 cz.b, .int .u16 cz.a] 38)
                    have hBc : Below wr.heap.size wr (wr.alloc (.cells #[.int .u16 cz.r, .int .u16 cz.g, .int .u16 cz.b, .int .u16 cz.a] 38)) := (Below.refl _ _).alloc (Nat.le_refl _) _
                    obtain ⟨qb2, hqb2⟩ : ∃ b, wr.heap.size = b := ⟨_, rfl⟩
                    have HQB := Lib.hid hqb2
                    rw [hqb2] at hnc ⊢
                    generalize wr.alloc (.cells #[.int .u16 cz.r, .int .u16 cz.g, .int .u16 cz.b, .int .u16 cz.a] 38) = x1 at *
                    have HNC := Lib.hid hnc
                    have HBC := Lib.hid hBc
                    clear hnc hBc hqb2 a0 a1 a2 a3
                    obtain ⟨cc, hcc⟩ : ∃ c, (if i < (encP gb P0).length ∧ ((encP gb P0).getD i C4.zero).a ≠ 0 then (encP gb P0).getD i C4.zero else (encP gb P0).getD 0 C4.zero) = c := ⟨_, rfl⟩
                    have HCCE := Lib.hid hcc
                    rw [HPN.out, HCZ.out] at hcc
                    obtain ⟨ci, hci⟩ : ∃ c, (encP gb P0).getD i C4.zero = c := ⟨_, rfl⟩
                    rw [hci] at hcc
                    have HCI := Lib.hid hci
                    have HCC2 := Lib.hid hcc
                    have hcells : i < pn → x1.cell? ⟨qb, 0 + i * 4, none⟩ = some (.int .u16 ci.r) ∧ x1.cell? ⟨qb, 0 + i * 4 + 1, none⟩ = some (.int .u16 ci.g) ∧ x1.cell? ⟨qb, 0 + i * 4 + 2, none⟩ = some (.int .u16 ci.b) ∧ x1.cell? ⟨qb, 0 + i * 4 + 3, none⟩ = some (.int .u16 ci.a) := by
                      intro h
                      obtain ⟨b0, b1, b2, b3⟩ := HCELL.out i h
                      rw [hci] at b0 b1 b2 b3
                      exact ⟨keep_cell HBC.out b0, keep_cell HBC.out b1, keep_cell HBC.out b2, keep_cell HBC.out b3⟩
                    have HCS := Lib.hid hcells
                    clear hci hcc hcells
                    go_cut [142] from 126 to 162 (fun s142 wx => s142 = .bool (decide (i < pn ∧ ci.a ≠ 0)) ∧ x1 = wx)
                    case first =>
                      by_cases hipn : i < pn
                      · obtain ⟨b0, b1, b2, b3⟩ := HCS.out hipn
                        rw [Nat.zero_add] at b3
                        have hin : (i : Int) < (pn : Int) := by omega
                        have HIP := Lib.hid hipn
                        clear b0 b1 b2 hipn
                        go_wp2_with fail
                        go_meet
                        exact ⟨by have := HIP.out; simp [this]; by_cases h0 : ci.a = 0 <;> simp [h0], rfl⟩
                      · have hin : ¬ (i : Int) < (pn : Int) := by omega
                        have HIP := Lib.hid hipn
                        clear hipn
                        go_wp2_with fail
                        go_meet
                        exact ⟨by have := HIP.out; simp [this], rfl⟩
                    case rest =>
                      obtain ⟨rfl, rfl⟩ := hcut
                      go_upto_if 142 with (fail)
                      go_cut [] from 126 to 162 (fun wx => wx.heap[qb2]? = some (.cells #[.int .u16 cc.r, .int .u16 cc.g, .int .u16 cc.b, .int .u16 cc.a] 38 (0, 0)) ∧ Below wr.heap.size wr wx)
                      case first =>
                        by_cases hcond : i < pn ∧ ci.a ≠ 0
                        · rw [decide_eq_true hcond]
                          have hcc3 := HCC2.out
                          rw [if_pos hcond] at hcc3
                          subst hcc3
                          obtain ⟨b0, b1, b2, b3⟩ := HCS.out hcond.1
                          rw [Nat.zero_add] at b0 b1 b2 b3
                          have hin : (i : Int) < (pn : Int) := by omega
                          clear hcond
                          go_wp2_with (refine wpList_store_row rfl 38 _ _ rfl qb2 #[.int .u16 ci.r, .int .u16 ci.g, .int .u16 ci.b, .int .u16 ci.a] rfl rfl 38 _ HNC.out (colSize4 _ _ _ _) rfl (colOne _ _ _ _) ?_)
                          go_meet
                          exact ⟨setRow_heap x1 qb2 _ _ _ _ HNC.out, below_setRow HBC.out (by have := HQB.out; omega) _⟩
                        · rw [decide_eq_false hcond]
                          have hcc3 := HCC2.out
                          rw [if_neg hcond] at hcc3
                          subst hcc3
                          clear hcond
                          go_wp2_with fail
                          go_meet
                          exact ⟨HNC.out, HBC.out⟩
                      case rest =>
                        obtain ⟨hbq, hbx⟩ := hcut
                        have HBX := Lib.hid hbx
                        have hoc : OutI wA wA.heap.size [] ob (L4 ++ palBytes (encP gb P0) i) wc := HOX.out.own (grown_of_below hbx) (fun r e => by cases e)
                        have HOC := Lib.hid hoc
                        obtain ⟨vo, hbo, _⟩ := hoc.box
                        have HBO := Lib.hid hbo
                        have m0 := (cell_of_row _ _ 0 _ _ (0, 0) hbq).trans (show _ = some (Value.int .u16 cc.r) from rfl)
                        have m1 := (cell_of_row _ _ 1 _ _ (0, 0) hbq).trans (show _ = some (Value.int .u16 cc.g) from rfl)
                        have m2 := (cell_of_row _ _ 2 _ _ (0, 0) hbq).trans (show _ = some (Value.int .u16 cc.b) from rfl)
                        have k0 := (cell_of_row _ _ 0 _ _ (0, 0) hbo).trans (show _ = some vo from rfl)
                        have hcok : cc.ok := by
                          refine HPOK.out cc ?_
                          rw [← HCCE.out]
                          have hpl := HPN.out
                          split
                          · rename_i h
                            rw [List.getD_eq_getElem?_getD, List.getElem?_eq_getElem h.1]
                            exact List.getElem_mem _
                          · rw [List.getD_eq_getElem?_getD, List.getElem?_eq_getElem (by omega)]
                            exact List.getElem_mem _
                        obtain ⟨⟨r1, r2⟩, ⟨g1, g2⟩, ⟨b1, b2⟩, _⟩ := hcok
                        have hdc : sm.Bytes [cc.r / 256, cc.g / 256, cc.b / 256] := by
                          intro x hx
                          simp only [List.mem_cons, List.not_mem_nil, or_false] at hx
                          rcases hx with rfl | rfl | rfl <;> omega
                        have hlp : (L4 ++ palBytes (encP gb P0) i).length ≤ 1048576 := by
                          have := palBytes_length (encP gb P0) i
                          rw [List.length_append, this, hl4]
                          omega
                        have hbs5 : wA.heap.size ≤ wc.heap.size := HOC.out.below.size
                        have HST : Hid (L4 ++ palBytes (encP gb P0) i ++ [cc.r / 256, cc.g / 256, cc.b / 256] = L4 ++ palBytes (encP gb P0) (i + 1)) := Lib.hid (by
                          rw [List.append_assoc]
                          congr 1
                          rw [palBytes_succ]
                          congr 1
                          unfold palB
                          rw [HCCE.out])
                        clear hbq hbx hoc hbo
                        go_upto_region 38 with (at_builtin; go_must (refine wpList_of_append rfl (.tmp 147) (.tmp 160) 26 26 rfl (outLit _ HA.out HOC.out HBO.out #[.int .u8 (cc.r / 256), .int .u8 (cc.g / 256), .int .u8 (cc.b / 256)] 3 [cc.r / 256, cc.g / 256, cc.b / 256] rfl rfl hdc (by omega) (by omega) hbs5 _ rfl) ?_; rintro v9 w9 ⟨b9, n9, c9, rfl, hm9, hI9, hk9⟩; have HI10 := Lib.hid hI9; have k9 := (cell_of_row w9 _ 0 _ _ (0, 0) hm9).trans (show _ = some vo from rfl); have kf := frozen_of_row w9 _ 0 _ _ hm9; clear hI9 hk9 hm9))
                        go_wp2_with fail
                        go_roundg (p2 - (i + 1))
                        case measure => have := Hg.out; omega
                        case rel => exact ⟨i + 1, by omega, rfl, by go_num, by rw [← HST.out]; exact HI10.out⟩
                    --FAST}
                  · have hip2 : i = p2 := by omega
                    have hip3 : ¬ (i : Int) < (p2 : Int) := by omega
                    rw [hip2] at HOX hip3
                    rw [hip2]
                    obtain ⟨L5, hL5⟩ : ∃ L, L4 ++ palBytes (encP gb P0) p2 = L := ⟨_, rfl⟩
                    rw [hL5] at HOX
                    have HL5 := Lib.hid hL5
                    have hl5 : L5.length ≤ 1048576 := by rw [← hL5, List.length_append, palBytes_length, hl4]; omega
                    clear hL5 hip2 hip hi Hg HI9
                    go_upto_if 163 with (fail)
                    go_cut [] from 164 to 209 (fun wx => OutI wA wA.heap.size [] ob (L5 ++ gifClear gb pn) wx)
                    case first =>
                      cases gb with
                      | true =>
                        obtain ⟨vo, hbo, _⟩ := HOX.out.box
                        have HBO := Lib.hid hbo
                        have k0 := (cell_of_row _ _ 0 _ _ (0, 0) hbo).trans (show _ = some vo from rfl)
                        have hdc : sm.Bytes [33, 249, 4, 1, 0, 0, (pn : Int) - 1, 0] := by
                          intro x hx
                          simp only [List.mem_cons, List.not_mem_nil, or_false] at hx
                          rcases hx with rfl | rfl | rfl | rfl | rfl | rfl | rfl | rfl <;> omega
                        have hbs5 : wA.heap.size ≤ wr.heap.size := HOX.out.below.size
                        have hpni : (1 : Int) ≤ (pn : Int) ∧ (pn : Int) ≤ 256 := by omega
                        clear hbo
                        go_wp2_with (at_builtin; go_must (refine wpList_of_append rfl (.tmp 164) (.tmp 169) 26 26 rfl (outLit _ HA.out HOX.out HBO.out #[.int .u8 33, .int .u8 249, .int .u8 4, .int .u8 1, .int .u8 0, .int .u8 0, .int .u8 ((pn : Int) - 1), .int .u8 0] 8 [33, 249, 4, 1, 0, 0, (pn : Int) - 1, 0] rfl rfl hdc (by omega) (by omega) hbs5 _ rfl) ?_; rintro v9 w9 ⟨b9, n9, c9, rfl, hm9, hI9, hk9⟩; have HI10 := Lib.hid hI9; have k9 := (cell_of_row w9 _ 0 _ _ (0, 0) hm9).trans (show _ = some vo from rfl); have kf := frozen_of_row w9 _ 0 _ _ hm9; clear hI9 hk9 hm9))
                        go_meet
                        exact HI10.out
                      | false =>
                        go_wp2_with fail
                        go_meet
                        simpa [gifClear] using HOX.out
                    case rest =>
                      have hcl8 : (gifClear gb pn).length ≤ 8 := by unfold gifClear; split <;> simp
                      obtain ⟨L6, hL6⟩ : ∃ L, L5 ++ gifClear gb pn = L := ⟨_, rfl⟩
                      rw [hL6] at hcut
                      have HO6 := Lib.hid hcut
                      have HL6 := Lib.hid hL6
                      have hl6 : L6.length ≤ 1048600 := by rw [← hL6, List.length_append]; omega
                      obtain ⟨vo, hbo, _⟩ := hcut.box
                      have HBO := Lib.hid hbo
                      have k0 := (cell_of_row _ _ 0 _ _ (0, 0) hbo).trans (show _ = some vo from rfl)
                      have hdc : sm.Bytes [44, 0, 0, 0, 0] := by
                        intro x hx
                        simp only [List.mem_cons, List.not_mem_nil, or_false] at hx
                        rcases hx with rfl | rfl | rfl | rfl | rfl <;> omega
                      have hbs5 : wA.heap.size ≤ wc.heap.size := HO6.out.below.size
                      clear hbo hcut hL6 HOX
                      go_upto_region 42 with (at_builtin; go_must (refine wpList_of_append rfl (.tmp 171) (.tmp 172) 26 26 rfl (outLit _ HA.out HO6.out HBO.out #[.int .u8 44, .int .u8 0, .int .u8 0, .int .u8 0, .int .u8 0] 5 [44, 0, 0, 0, 0] rfl rfl hdc (by omega) (by omega) hbs5 _ rfl) ?_; rintro v9 w9 ⟨b9, n9, c9, rfl, hm9, hI9, hk9⟩; have HI10 := Lib.hid hI9; have k9 := (cell_of_row w9 _ 0 _ _ (0, 0) hm9).trans (show _ = some vo from rfl); have kf := frozen_of_row w9 _ 0 _ _ hm9; clear hI9 hk9 hm9))
                      generalize w9.setCell ⟨ob, 0, none⟩ (.slice (some ⟨b9, 0, none⟩) n9 c9) = x7 at *
                      have j0 := keep_cell HI10.out.below I0.out
                      clear k9 kf k0 HO6 HBO hbs5
                      go_wp2_with fail
                      refine (two_any HA.out HI10.out W (by omega) (by rw [List.length_append]; simp; omega) HI10.out.below.size).mono ?_
                      rintro e x8 ⟨rfl, ho8⟩
                      have HO8 := Lib.hid ho8
                      have j1 := keep_cell ho8.below I1.out
                      clear ho8 j0
                      go_wp2_with fail
                      refine (two_any HA.out HO8.out H (by omega) (by simp [two]; omega) HO8.out.below.size).mono ?_
                      rintro e x9 ⟨rfl, ho9⟩
                      obtain ⟨L9, hL9⟩ : ∃ L, L6 ++ [44, 0, 0, 0, 0] ++ two W ++ two H = L := ⟨_, rfl⟩
                      rw [hL9] at ho9
                      have HO9 := Lib.hid ho9
                      have HL9 := Lib.hid hL9
                      have hl9 : L9.length ≤ 1048700 := by rw [← hL9]; simp [two]; omega
                      clear ho9 hL9 j1 HO8
                      go_upto_region 44 with (fail)
                      go_cut [14] from 182 to 209 (fun s14 wx => s14 = .int .i64 (max sz 2 : Nat) ∧ x9 = wx)
                      case first =>
                        rcases Nat.lt_or_ge sz 2 with h | h
                        · have h2 : (sz : Int) < 2 := by omega
                          have H2 := Lib.hid h
                          clear h
                          go_wp2_with fail
                          all_goals
                            go_meet
                            exact ⟨congrArg (Value.int .i64) (by have := H2.out; omega), rfl⟩
                        · have h2 : (2 : Int) ≤ (sz : Int) := by omega
                          have H2 := Lib.hid h
                          clear h
                          go_wp2_with fail
                          all_goals
                            go_meet
                            exact ⟨congrArg (Value.int .i64) (by have := H2.out; omega), rfl⟩
                      case rest =>
                        obtain ⟨rfl, rfl⟩ := hcut
                        obtain ⟨zz, hzz⟩ : ∃ z, max sz 2 = z := ⟨_, rfl⟩
                        have hz2 : 2 ≤ zz ∧ zz ≤ 8 ∧ sz ≤ zz := by omega
                        rw [hzz]
                        have HZZ := Lib.hid hzz
                        have hX : ∀ x ∈ encX P0 l N, (0 ≤ x ∧ x < 256) ∧ x < ((2 ^ zz : Nat) : Int) := by
                          intro x hx
                          obtain ⟨c, hc, rfl⟩ := List.mem_map.1 hx
                          obtain ⟨k, hk, rfl⟩ := cols_mem.1 hc
                          have hne : 32768 ≤ (pix l k).a → P0 ≠ [] := fun h => HNP.out ⟨k, hk, h⟩
                          obtain ⟨t1, t2, t3⟩ := encIdx_range P0 (pix l k) hne
                          have hlen : encIdx P0 (pix l k) < (pn : Int) := by
                            have hpl := HPN.out
                            cases gb with
                            | true => simp [encP] at hpl; omega
                            | false =>
                              have := t3 (goneB_false HGB.out hk)
                              simp [encP] at hpl
                              omega
                          have h1 : (2 : Nat) ^ sz ≤ 2 ^ zz := Nat.pow_le_pow_right (by decide) hz2.2.2
                          have h2 := HP2.out
                          have h3 := HFIT.out
                          refine ⟨⟨t1, by omega⟩, ?_⟩
                          have h4 : ((2 ^ zz : Nat) : Int) ≥ (p2 : Int) := by omega
                          omega
                        have hoi9 := ownsRow_below HOIA.out HO9.out.below
                        have hsl9 := Fresh.sl hoi9 (wf_of_bytes fun x hx => (hX x hx).1)
                        have CG := Lib.hid (gifPack_any zz hz2.1 hz2.2.1 (some ⟨ig, 0, none⟩) N ic (encX P0 l N) x9 hsl9 (fun x hx => (hX x hx).2) (by omega))
                        have p3 := (cell_of_row x9 _ 3 _ _ (0, 0) ((HO9.out.below.block _ (block_lt HABA.out)).trans HABA.out)).trans (show _ = some (Value.slice (some ⟨ig, 0, none⟩) N ic) from rfl)
                        clear hX hoi9 hsl9 hzz
                        go_wp2_with fail
                        refine CG.out.mono ?_
                        rintro e y1 ⟨T, v, hT, hTl, rfl, ⟨dg, dc, rfl, hdg, hod⟩, hby⟩
                        have HT := Lib.hid hT
                        have HTL := Lib.hid hTl
                        have HOD := Lib.hid hod
                        have HBY := Lib.hid hby
                        obtain ⟨dn, hdn⟩ : ∃ d, ((lz.bitsOfAll false T).length + 7) / 8 = d := ⟨_, rfl⟩
                        obtain ⟨dd, hdd⟩ : ∃ d, bt.bytes false (lz.bitsOfAll false T) = d := ⟨_, rfl⟩
                        rw [hdn, hdd] at HOD
                        rw [hdn]
                        have HDN := Lib.hid hdn
                        have HDD := Lib.hid hdd
                        have hdn6 : dn ≤ 262144 := by
                          obtain ⟨_, _, _, _, _, hfit⟩ := hT
                          have h1 := lz.bitsAll_len false hfit
                          have h2 := encX_length P0 l N
                          omega
                        have hod9 : OutD wA wA.heap.size [] ob x9.heap.size dg dn dc dd L9 y1 := by
                          refine ⟨HO9.out.own (grown_of_below hby) (fun r e => by cases e), HOD.out, fun vq hq e => ?_⟩
                          obtain ⟨v9, hv9, hr9⟩ := HO9.out.box
                          rw [(hby.block _ (block_lt hv9)).trans hv9] at hq
                          cases hq
                          have h1 := (World.ownsRow.lt hr9 dg e).2
                          omega
                        have HOY := Lib.hid hod9
                        obtain ⟨vo, hbo, _⟩ := hod9.out.box
                        have HBO := Lib.hid hbo
                        have k0 := (cell_of_row _ _ 0 _ _ (0, 0) hbo).trans (show _ = some vo from rfl)
                        have hdz : sm.Bytes [0, (zz : Int)] := by
                          intro x hx
                          simp only [List.mem_cons, List.not_mem_nil, or_false] at hx
                          rcases hx with rfl | rfl <;> omega
                        have hbs6 : wA.heap.size ≤ y1.heap.size := HOY.out.out.below.size
                        obtain ⟨hz21, hz22, _⟩ := hz2
                        clear hT hTl hod hby hod9 hbo hdn hdd CG p3
                        go_upto_region 47 with (at_builtin; go_must (refine wpList_of_append rfl (.tmp 191) (.tmp 194) 26 26 rfl (outLitD _ HA.out HOY.out HBO.out #[.int .u8 0, .int .u8 (zz : Nat)] 2 [0, (zz : Int)] rfl rfl hdz (by omega) (by omega) hbs6 _ rfl) ?_; rintro v9 w9 ⟨b9, n9, c9, rfl, hm9, hI9, hk9⟩; have HI11 := Lib.hid hI9; have k9 := (cell_of_row w9 _ 0 _ _ (0, 0) hm9).trans (show _ = some vo from rfl); have kf := frozen_of_row w9 _ 0 _ _ hm9; clear hI9 hk9 hm9))
                        obtain ⟨L10, hL10⟩ : ∃ L, L9 ++ [0, (zz : Int)] = L := ⟨_, rfl⟩
                        rw [hL10] at HI11
                        have HL10 := Lib.hid hL10
                        have hl10 : L10.length ≤ 1048800 := by rw [← hL10, List.length_append]; simp; omega
                        generalize w9.setCell ⟨ob, 0, none⟩ (.slice (some ⟨b9, 0, none⟩) n9 c9) = y2 at *
                        clear hL10 k9 kf k0 HOY HBO hbs6 HOD
                        go_wp2_with fail
                        refine (chunk_any (some ⟨dg, 0, none⟩) dn dc 255 (by omega) y2).mono ?_
                        rintro e y3 ⟨rfl, rfl⟩
                        obtain ⟨q1, q2⟩ := heap2 y2 (.cells #[.slice (some ⟨dg, 0, none⟩) dn dc] 26) (.cells #[.int .i64 255] 3)
                        have hB3 : Below y2.heap.size y2 ((y2.alloc (.cells #[.slice (some ⟨dg, 0, none⟩) dn dc] 26)).alloc (.cells #[.int .i64 255] 3)) := ((Below.refl _ _).alloc (Nat.le_refl _) _).alloc (by simp) _
                        have hs3 : ((y2.alloc (.cells #[.slice (some ⟨dg, 0, none⟩) dn dc] 26)).alloc (.cells #[.int .i64 255] 3)).heap.size = y2.heap.size + 1 + 1 := by simp
                        obtain ⟨cx, hcx⟩ : ∃ b, y2.heap.size = b := ⟨_, rfl⟩
                        have HI12 := HI11.out.at_below hB3
                        have hobx : ob < cx := by rw [← hcx]; obtain ⟨_, h, _⟩ := HI11.out.out.box; exact block_lt h
                        rw [hcx] at q1 q2 hs3 ⊢
                        have HCX := Lib.hid hcx
                        clear hcx hB3
                        go_wp2_with fail
                        generalize (y2.alloc (.cells #[.slice (some ⟨dg, 0, none⟩) dn dc] 26)).alloc (.cells #[.int .i64 255] 3) = y3 at *
                        refine (wpIn_wide (n := 6)).1 ?_
                        obtain ⟨fix, hfx⟩ : ∃ x : List (Nat × Array Value × TypeId), x = [(cx, #[.slice (some ⟨dg, 0, none⟩) dn dc], 26), (cx + 1, #[.int .i64 255], 3)] := ⟨_, rfl⟩
                        have HFX := Lib.hid hfx
                        have hAF : OutAt wA wA.heap.size fix ob := by
                          refine ⟨HA.out.o1, HA.out.o2, fun p hp => ?_, HA.out.t⟩
                          rw [hfx] at hp
                          simp only [List.mem_cons, List.not_mem_nil, or_false] at hp
                          rcases hp with rfl | rfl <;> refine ⟨by dsimp only; decide, ?_⟩ <;> dsimp only <;> omega
                        have HAF := Lib.hid hAF
                        have hIF : OutD wA wA.heap.size fix ob x9.heap.size dg dn dc dd (L10 ++ subsP dd ([] : List (ChIx dn 255))) y3 := by
                          refine ⟨⟨fun p hp => ?_, by simpa [subsP] using HI12.out.box, HI12.out.below⟩, HI12.dat, HI12.ne⟩
                          rw [hfx] at hp
                          simp only [List.mem_cons, List.not_mem_nil, or_false] at hp
                          rcases hp with rfl | rfl
                          · exact q1
                          · exact q2
                        have HIF := Lib.hid hIF
                        have hcr1 := (cell_of_row y3 _ 0 _ _ (0, 0) q1).trans rfl
                        have hcr2 := (cell_of_row y3 _ 0 _ _ (0, 0) q2).trans rfl
                        have hdc : dn ≤ dc := by
                          rcases HI12.dat.2 with ⟨e, _⟩ | ⟨_, _, _, e, _, _, h, _⟩
                          · cases e
                          · cases e; exact h
                        have hys : wA.heap.size ≤ y3.heap.size := HIF.out.out.below.size
                        clear hAF hIF hfx HI12 q1 q2
                        refine wpIn_rangeFunc_set (α := ChIx dn 255) 198 21 (fun x => chunkV dg 0 dn 255 x.1) rfl (by omega) (gf := 61) (lb := #[.pointer (some ⟨cx, 0, none⟩), .pointer (some ⟨cx + 1, 0, none⟩)]) rfl trivial (enters_of Tryz.func61 (by kernel_rfl) rfl)
                          (chunk_stops 5 cx (cx + 1) _ dn dc 255 (by omega) (by omega) hdc (by omega) y3 (by omega) (by omega) dg 0 (.inr rfl) hcr1 hcr2) (fun h k => h.trans k) (KeepsTwo.put (by omega) (by omega)) (Below.refl _ _) rfl
                          (fun pre W1 => OutD wA wA.heap.size fix ob x9.heap.size dg dn dc dd (L10 ++ subsP dd pre) W1)
                          (fun s A B row hs hg hr => hs.own hg (fun r e => ⟨Nat.le_trans hys (hr r e).1, (hr r e).2⟩))
                          HIF.out ?assign ?body ?done
                        case assign =>
                          intro lr x W1 K hK
                          gi_wp2
                          exact hK
                        case body =>
                          rintro lr pre ⟨xi, hxi⟩ W1 hI hlen
                          unfold setTwo
                          have hxn := chunks_in hxi
                          obtain ⟨m, hm⟩ : ∃ m, min 255 (dn - xi * 255) = m := ⟨_, rfl⟩
                          have hmm : 1 ≤ m ∧ m ≤ 255 ∧ xi * 255 + m ≤ dn := by omega
                          have hcv : chunkV dg 0 dn 255 xi = .slice (some ⟨dg, 0 + xi * 255, none⟩) m m := by unfold chunkV; rw [hm]
                          dsimp only
                          rw [hcv]
                          have HI := Lib.hid hI
                          obtain ⟨vo, hbo, _⟩ := hI.out.box
                          have HBO := Lib.hid hbo
                          have k0 := (cell_of_row _ _ 0 _ _ (0, 0) hbo).trans (show _ = some vo from rfl)
                          have HM := Lib.hid hm
                          clear hI hbo hcv hm
                          simp only [List.setIfInBounds_toArray, List.set_cons_succ, List.set_cons_zero]
                          obtain ⟨hm1, hm2, hm3⟩ := hmm
                          have hb49 : (L10 ++ subsP dd pre).length + 1 + m ≤ 140737488355328 := by
                            have h1 := subsP_len dd pre
                            have h2 : pre.length < (dn + 254) / 255 := hlen
                            rw [List.length_append]
                            omega
                          have hdb : sm.Bytes dd := by
                            rw [← HDD.out]
                            exact bt.bytes_range _ _
                          have hbs7 : wA.heap.size ≤ W1.heap.size := HI.out.out.below.size
                          have hrun := outTwoD 26 26 HAF.out HI.out hdb HBO.out (m : Nat) (by omega) (xi * 255) m hm3 hb49 hbs7 _ rfl
                          have HRUN := Lib.hid hrun
                          have hmi : (m : Int) < 256 := by omega
                          clear hrun
                          gi_upto_region 49 with (fail)
                          refine round_region (by rintro ⟨_, _, h⟩; exact h) (by kernel_rfl) ?_
                          go_wp2_with (at_builtin; first | (refine wpList_of_append rfl (.tmp 199) (.tmp 203) 26 26 rfl HRUN.out ?_; rintro v1 w1 hr2; have HR2 := Lib.hid hr2; clear hr2) | (have hr3 := HR2.out; rw [Nat.zero_add] at hr3; refine wpList_of_append rfl (.tmp 204) (.tmp 205) 26 26 rfl hr3 ?_; rintro v9 w9 ⟨b9, n9, c9, rfl, hm9, hI9, hk9⟩; have HI13 := Lib.hid hI9; have HK13 := Lib.hid hk9; have k9 := (cell_of_row w9 _ 0 _ _ (0, 0) hm9).trans (show _ = some vo from rfl); have kf := frozen_of_row w9 _ 0 _ _ hm9; clear hI9 hk9 hm9 hr3))
                          have hddl : dd.length = dn := by rw [← HDD.out, bt.bytes_length, HDN.out]
                          have hsn := subsP_snoc hddl pre ⟨xi, hxi⟩ (m := m) HM.out
                          have hf1 : (cx, (#[.slice (some ⟨dg, 0, none⟩) dn dc] : Array Value), 26) ∈ fix := by rw [HFX.out]; simp
                          have hf2 : (cx + 1, (#[.int .i64 255] : Array Value), 3) ∈ fix := by rw [HFX.out]; simp
                          refine ⟨HK13.out, ⟨(HI13.out.out.fix _ hf1).trans (HI.out.out.fix _ hf1).symm, (HI13.out.out.fix _ hf2).trans (HI.out.out.fix _ hf2).symm⟩, ?_⟩
                          dsimp only
                          rw [hsn, ← List.append_assoc, ← List.append_assoc]
                          exact HI13.out
                        case done =>
                          rintro D ys W1 hD ⟨hS1, hS2⟩ hI hK
                          have hDw : w.heap.size ≤ D := by have := HBA.out.size; omega
                          rw [subsP_all dd hS1 hS2] at hI
                          have HI := Lib.hid hI
                          obtain ⟨vo, hbo, _⟩ := hI.out.box
                          have HBO := Lib.hid hbo
                          have HK := Lib.hid hK
                          have k0 := (cell_of_row _ _ 0 _ _ (0, 0) hbo).trans (show _ = some vo from rfl)
                          have hde : sm.Bytes [0, 59] := by
                            intro x hx
                            simp only [List.mem_cons, List.not_mem_nil, or_false] at hx
                            rcases hx with rfl | rfl <;> omega
                          have hb50 : (L10 ++ subs dd ((dn + 254) / 255)).length + 2 ≤ 140737488355328 := by
                            have h1 := subsP_len dd ys
                            rw [subsP_all dd hS1 hS2, hS1] at h1
                            have h2 : chunks dn 255 = (dn + 254) / 255 := rfl
                            rw [List.length_append]
                            omega
                          have hbs8 : wA.heap.size ≤ W1.heap.size := HI.out.out.below.size
                          clear hI hbo hK hS1 hS2
                          go_wp2_with (at_builtin; go_must (refine wpList_of_append rfl (.tmp 207) (.tmp 208) 26 26 rfl (outLast _ HAF.out HI.out.out HBO.out #[.int .u8 0, .int .u8 59] 2 [0, 59] rfl rfl hde (by omega) hb50 hbs8 _ rfl) ?_; rintro v9 w9 hE; have HE := Lib.hid hE; clear hE))
                          have hK9 := HE.out.2.2.same D _ HK.out rfl
                          refine ⟨by simp, .inl ⟨_, _, rfl, run_takeDeferred hK9, ?_⟩⟩
                          have hg9 := grownBy_putObj' w9 D (.deferred none)
                          have hr9 : ∀ r, some D = some r → ∃ o : Obj, w9.heap[r]? = some o ∧ o.isCells = false := fun r e => by cases e; exact ⟨_, hK9, rfl⟩
                          have hddl : dd.length = dn := by rw [← HDD.out, bt.bytes_length, HDN.out]
                          have hfile : gifFile W H sz gb P0 dd = L10 ++ subs dd ((dn + 254) / 255) ++ [0, 59] := by
                            unfold gifFile gifHead
                            rw [hddl, HPN.out, HZZ.out, HP2.out, ← HL10.out, ← HL9.out, ← HL6.out, ← HL5.out, ← HL4.out, ← HL3.out, show (127 + (sz : Int)) = 128 + (sz : Int) - 1 by omega]
                            rfl
                          have hpl := HPN.out
                          have hlo := HBA.out.size
                          have hpost : EncPost W H l N w (.returned (.tuple #[v9, .int .i64 0])) (w9.putObj D (.deferred none)) := by
                            refine ⟨P0, sz, T, v9, H8P.out, ?_, HNP.out, ?_, ?_, ?_, rfl, ?_, ?_⟩
                            · rw [HGB.out, hpl]
                              exact ⟨hPs1, hPs2⟩
                            · rw [HGB.out, hpl, HP2.out]
                              exact ⟨hs1, hs8, HFIT.out⟩
                            · rw [HZZ.out]
                              exact HT.out
                            · have h1 := HTL.out
                              rw [encX_length] at h1
                              exact h1
                            · exact take_deferred_below hDw (Nat.le_refl _) (HBA.out.trans (HE.out.2.1.mono hlo)) _
                            · rw [HGB.out, HDD.out, hfile]
                              exact World.ownsRow.mono (own_row hg9 hr9 HE.out.1) hlo
                          trace "C"
                          exact ⟨_, results_tmp2 (t := 2) (u := 3) rfl _ _ _, hpost⟩
end Go.Proofs.YtioeifbobhdccaaGreatDoor
