/- Grids of colours. -/
import Derived.Test.YtioeifbobhdccaaGreatDoorM13
import Derived.BigQuiet
import Derived.Lib.QuoteBits
import Derived.Test.YtioeifbobhdccaaGreatDoorM2
import Derived.Test.YtioeifbobhdccaaGreatDoorM3
namespace Go.Proofs.YtioeifbobhdccaaGreatDoor
open Go.RowKit Go.Sort

def CloneC (t : List C4) (w : World) (e : Ending) (w' : World) : Prop := ∃ g c, e = .returned (.slice (some ⟨g, 0, none⟩) t.length c) ∧ w.heap.size ≤ g ∧ OwnC w.heap.size w' (.slice (some ⟨g, 0, none⟩) t.length c) t ∧ Below w.heap.size w w'
theorem RdC.below {w w' : World} {a : Option Addr} {t : List C4} (h : RdC w a t) (hb : Below w.heap.size w w') : RdC w' a t := by
  rcases h with h | ⟨b, off, e, hc⟩
  · exact .inl h
  · exact .inr ⟨b, off, e, fun i hi => ⟨keep_cell hb (hc i hi).1, keep_cell hb (hc i hi).2.1, keep_cell hb (hc i hi).2.2.1, keep_cell hb (hc i hi).2.2.2⟩⟩
theorem rdC_news {w : World} {b off : Nat} {t : List C4} (h : RdC w (some ⟨b, off, none⟩) t) : ∀ j u, (colRow t)[j]? = some u → w.cell? ((⟨b, off, none⟩ : Addr).add j) = some u := by
  intro j u hu
  have h1 : (⟨b, off, none⟩ : Addr).add j = ⟨b, off + j, none⟩ := by unfold Addr.add; split <;> simp_all
  rw [h1]
  rw [colRow_get] at hu
  rcases h with h | ⟨b', off', e, hc⟩
  · subst h
    simp at hu
  · simp only [Option.some.injEq, Addr.mk.injEq, and_true] at e
    obtain ⟨rfl, rfl⟩ := e
    have hj : j / 4 < t.length := by
      rcases Nat.lt_or_ge (j / 4) t.length with h2 | h2
      · exact h2
      · rw [List.getElem?_eq_none h2] at hu
        cases hu
    obtain ⟨k0, k1, k2, k3⟩ := hc _ hj
    rw [List.getD_eq_getElem?_getD, List.getElem?_eq_getElem hj] at k0 k1 k2 k3
    rw [List.getElem?_eq_getElem hj] at hu
    have hm : j % 4 = 0 ∨ j % 4 = 1 ∨ j % 4 = 2 ∨ j % 4 = 3 := by omega
    have hu' : (t[j / 4]).cells[j % 4]? = some u := hu
    rcases hm with e | e | e | e
    · rw [e] at hu'; rw [show off + j = off + j / 4 * 4 by omega, k0, ← hu']; rfl
    · rw [e] at hu'; rw [show off + j = off + j / 4 * 4 + 1 by omega, k1, ← hu']; rfl
    · rw [e] at hu'; rw [show off + j = off + j / 4 * 4 + 2 by omega, k2, ← hu']; rfl
    · rw [e] at hu'; rw [show off + j = off + j / 4 * 4 + 3 by omega, k3, ← hu']; rfl
theorem colRow_one (t : List C4) : ∀ u ∈ colRow t, u.oneCell' = true := by
  intro u hu
  obtain ⟨c, _, h⟩ := List.mem_flatMap.1 hu
  exact C4.cells_one c u h
set_option maxRecDepth 100000 in
theorem cloneC_any (b off cap : Nat) (t : List C4) (w : World) (h : RdC w (some ⟨b, off, none⟩) t) (hn : t.length ≤ 1099511627776) (h0 : 0 < t.length) :
    Calls Tryz.prog 34 #[.slice (some ⟨b, off, none⟩) t.length cap] w (CloneC t w) := by
  obtain ⟨i0, hi, hz0, hz1, hz2⟩ := info_parts infoCol
  have hlit := World.ownsRow_lit (e := 38) (size := 4) w #[] 0 (Nat.le_refl _) (by simp) rfl
  have H := Lib.hid h
  have Hlit := Lib.hid hlit
  clear h hlit
  have HN := Lib.hid (rdC_news (H.out.below ((Below.refl _ _).alloc (Nat.le_refl _) (.cells #[] 38))))
  have hsz : (w.alloc (.cells #[] 38)).heap.size = w.heap.size + 1 := by simp
  have Hsz := Lib.hid hsz
  have H0 := Lib.hid h0
  clear hsz h0
  have hnil := fun (w : World) => Lib.run_eql_slice_nil (P := Tryz.prog) w 34 38 (some ⟨b, off, none⟩) t.length cap 0 0 Tryz.underlying34
  go_enter Tryz.func34, Tryz.ntmps34
  go_wp2_with (at_builtin; go_must (refine wpList_append_own_at _ rfl _ _ 34 rfl w.heap.size 38 i0 _ 4 8 Tryz.underlying34 hi hz0 hz1 hz2 rfl (by decide) (.slice (some ⟨w.heap.size, 0, none⟩) 0 0) 0 _ rfl Hlit.out ⟨b, off, none⟩ t.length cap (colRow t) rfl (colRow_length t) HN.out (colRow_one t) (by unfold maxLen; omega) (by omega) (by rw [Hsz.out]; omega) ?_; intro v' w1 hown hg hnil hat; have Hown := Lib.hid hown; have Hg := Lib.hid hg; clear hown hg hnil hat))
  go_ret
  have ho : OwnC w.heap.size w1 v' t := by
    have := Hown.out
    unfold OwnC
    simpa using this
  have hb : Below w.heap.size w w1 := ((Below.refl _ _).alloc (Nat.le_refl _) _).grown Hg.out (by simp) (fun k hk => Nat.le_of_eq (Option.some.inj hk))
  obtain ⟨g, c, rfl, _⟩ := own_form ho H0.out
  exact ⟨g, c, rfl, (World.ownsRow.lt ho g rfl).1, ho, hb⟩
/-- sides that fit -/
def SidesOk (W H : Int) : Prop := 1 ≤ W ∧ 1 ≤ H ∧ W ≤ 4096 ∧ H ≤ 4096 ∧ W * H ≤ 65536
set_option maxRecDepth 100000 in
theorem gfits_any (W H : Int) (h : SidesOk W H) (w : World) : Calls Tryz.prog 98 #[.int .i64 W, .int .i64 H] w fun e w' => e = .returned (.bool true) ∧ w = w' := by
  obtain ⟨h1, h2, h3, h4, h5⟩ := h
  obtain ⟨m1, m2, m3⟩ := sides_mul h1 h2 h3 h4
  obtain ⟨q, hq⟩ : ∃ q, q = W * H := ⟨_, rfl⟩
  have e1 : IntKind.i64.wrap (W * H) = q := by rw [hq]; exact IntWalk.i64_in _ (by omega)
  rw [← hq] at m1 m2 h5
  clear m3 hq
  go_enter Tryz.func98, Tryz.ntmps98
  go_wp2
  all_goals
    go_ret
    exact ⟨rfl, rfl⟩
/-- a grid -/
structure GridAt (base : Nat) (w : World) (g : Nat) (W H : Int) (t : List C4) (cb cc : Nat) : Prop where
  lies : base ≤ g
  head : w.heap[g]? = some (.cells #[.int .i64 W, .int .i64 H, .slice (some ⟨cb, 0, none⟩) t.length cc] 138 (0, 0))
  cells : OwnC base w (.slice (some ⟨cb, 0, none⟩) t.length cc) t
theorem GridAt.below {base : Nat} {w w' : World} {g : Nat} {W H : Int} {t : List C4} {cb cc : Nat} (h : GridAt base w g W H t cb cc) (hb : Below w.heap.size w w') : GridAt base w' g W H t cb cc :=
  ⟨h.lies, (hb.block _ (block_lt h.head)).trans h.head, h.cells.below hb⟩
def GridPost (W H : Int) (t : List C4) (w : World) (e : Ending) (w' : World) : Prop := ∃ g cb cc, e = .returned (.tuple #[.pointer (some ⟨g, 0, none⟩), .int .i64 0]) ∧ GridAt w.heap.size w' g W H t cb cc ∧ Below w.heap.size w w'
set_option maxRecDepth 100000 in
theorem gridOf_any (W H : Int) (hs : SidesOk W H) (b off cap : Nat) (t : List C4) (w : World) (h : RdC w (some ⟨b, off, none⟩) t) (hl : (t.length : Int) = W * H) :
    Calls Tryz.prog 66 #[.int .i64 W, .int .i64 H, .slice (some ⟨b, off, none⟩) t.length cap] w (GridPost W H t w) := by
  have CF := Lib.hid (gfits_any W H hs w)
  obtain ⟨h1, h2, h3, h4, h5⟩ := hs
  obtain ⟨m1, m2, m3⟩ := sides_mul h1 h2 h3 h4
  have e1 : IntKind.i64.wrap (W * H) = (t.length : Int) := by rw [← hl]; exact IntWalk.i64_in _ (by omega)
  have CC := Lib.hid (cloneC_any b off cap t w h (by omega) (by omega))
  clear h m1 m2 m3 h5 hl
  go_enter Tryz.func66, Tryz.ntmps66
  go_wp2_with fail
  refine CF.out.mono ?_
  rintro e w1 ⟨rfl, rfl⟩
  go_wp2_with fail
  refine CC.out.mono ?_
  rintro e w2 ⟨g2, c2, rfl, hg2, ho2, hb2⟩
  have HO2 := Lib.hid ho2
  have HB2 := Lib.hid hb2
  clear ho2 hb2 CC CF
  go_wp2_with fail
  go_ret2
  exact ⟨w2.heap.size, g2, c2, rfl, ⟨HB2.out.size, heap_alloc_new _ _, HO2.out.below ((Below.refl _ _).alloc (Nat.le_refl _) _)⟩, HB2.out.alloc HB2.out.size _⟩
set_option maxRecDepth 100000 in
theorem gridW_any {base : Nat} {w : World} {g : Nat} {W H : Int} {t : List C4} {cb cc : Nat} (h : GridAt base w g W H t cb cc) : Calls Tryz.prog 68 #[.pointer (some ⟨g, 0, none⟩)] w fun e w' => e = .returned (.int .i64 W) ∧ w' = w := by
  have c0 := (cell_of_row w _ 0 _ _ (0, 0) h.head).trans (show _ = some (Value.int .i64 W) from rfl)
  clear h
  go_enter Tryz.func68, Tryz.ntmps68
  go_wp2_with fail
  go_ret
  exact ⟨rfl, rfl⟩
set_option maxRecDepth 100000 in
theorem gridH_any {base : Nat} {w : World} {g : Nat} {W H : Int} {t : List C4} {cb cc : Nat} (h : GridAt base w g W H t cb cc) : Calls Tryz.prog 69 #[.pointer (some ⟨g, 0, none⟩)] w fun e w' => e = .returned (.int .i64 H) ∧ w' = w := by
  have c0 := (cell_of_row w _ 1 _ _ (0, 0) h.head).trans (show _ = some (Value.int .i64 H) from rfl)
  clear h
  go_enter Tryz.func69, Tryz.ntmps69
  go_wp2_with fail
  go_ret
  exact ⟨rfl, rfl⟩
end Go.Proofs.YtioeifbobhdccaaGreatDoor
/- slices.IndexFunc at colours: the clear one. -/
namespace Go.Proofs.YtioeifbobhdccaaGreatDoor
open Go.RowKit Go.Sort
/-- where the first colour of no alpha stands -/
def NoneAt (t : List C4) (z : Int) : Prop := (z = -1 ∧ ∀ c ∈ t, c.a ≠ 0) ∨ ∃ (j : Nat) (c : C4), z = (j : Nat) ∧ t[j]? = some c ∧ c.a = 0 ∧ ∀ i d, i < j → t[i]? = some d → d.a ≠ 0
def NonePost (t : List C4) (w : World) (e : Ending) (w' : World) : Prop := ∃ z, e = .returned (.int .i64 z) ∧ NoneAt t z ∧ Below w.heap.size w w'
set_option maxRecDepth 100000 in
theorem indexNone_any (a : Option Addr) (cap : Nat) (t : List C4) (w : World) (h : RdC w a t) (hok : ∀ c ∈ t, c.ok) (hl : t.length ≤ 1099511627776) :
    Calls Tryz.prog 32 #[.slice a t.length cap, .func (.func 33) #[] #[]] w (NonePost t w) := by
  have HR := Lib.hid h
  have HOK := Lib.hid hok
  obtain ⟨n, hn⟩ : ∃ n, t.length = n := ⟨_, rfl⟩
  rw [hn] at hl ⊢
  have HN := Lib.hid hn
  clear h hok hn
  go_enter Tryz.func32, Tryz.ntmps32
  go_wp2_with fail
  go_loopg [8] n (fun gk i wr => ∃ k : Nat, k ≤ n ∧ gk = n - k ∧ i = .int .i64 k ∧ Below w.heap.size w wr ∧ ∀ i d, i < k → t[i]? = some d → d.a ≠ 0)
  case atStart => exact ⟨0, Nat.zero_le _, rfl, rfl, Below.refl _ _, fun i d h _ => by omega⟩
  case round =>
    obtain ⟨k, hk, hg, rfl, hb, hno⟩ := hrel
    have Hg := Lib.hid hg
    have HB := Lib.hid hb
    have HNO := Lib.hid hno
    clear hg hb hno
    by_cases hlt : k < n
    · have hkt : k < t.length := by have := HN.out; omega
      obtain ⟨b, off, rfl, hcell⟩ : ∃ b off, a = some ⟨b, off, none⟩ ∧ ∀ i, i < t.length → w.cell? ⟨b, off + i * 4, none⟩ = some (.int .u16 (t.getD i C4.zero).r) ∧ w.cell? ⟨b, off + i * 4 + 1, none⟩ = some (.int .u16 (t.getD i C4.zero).g) ∧ w.cell? ⟨b, off + i * 4 + 2, none⟩ = some (.int .u16 (t.getD i C4.zero).b) ∧ w.cell? ⟨b, off + i * 4 + 3, none⟩ = some (.int .u16 (t.getD i C4.zero).a) := by
        rcases HR.out with h0 | h0
        · rw [h0] at hkt; simp at hkt
        · exact h0
      obtain ⟨k0, k1, k2, k3⟩ := hcell k hkt
      have hget : t[k]? = some (t.getD k C4.zero) := by rw [List.getD_eq_getElem?_getD, List.getElem?_eq_getElem hkt]; rfl
      obtain ⟨c, hc⟩ : ∃ c, t.getD k C4.zero = c := ⟨_, rfl⟩
      rw [hc] at k0 k1 k2 k3 hget
      have x0 := keep_cell HB.out k0
      have x1 := keep_cell HB.out k1
      have x2 := keep_cell HB.out k2
      have x3 := keep_cell HB.out k3
      have HGET := Lib.hid hget
      have CN := Lib.hid (none_any c wr)
      have hkn : (k : Int) < (n : Int) := by omega
      clear hcell k0 k1 k2 k3 hget hc hkt
      by_cases hz : c.a = 0
      · have hz1 : (c.a == 0) = true := by simp [hz]
        rw [hz1] at CN
        have HZ := Lib.hid hz
        clear hz hz1
        go_wp2_with fail
        refine CN.out.mono ?_
        rintro e w2 ⟨rfl, hb2⟩
        have HB2 := Lib.hid (HB.out.trans (hb2.mono HB.out.size))
        clear hb2 CN
        go_wp2_with fail
        go_ret
        exact ⟨_, rfl, .inr ⟨k, c, rfl, HGET.out, HZ.out, HNO.out⟩, HB2.out⟩
      · have hz1 : (c.a == 0) = false := by simp [hz]
        rw [hz1] at CN
        have HZ := Lib.hid hz
        clear hz hz1
        go_wp2_with fail
        refine CN.out.mono ?_
        rintro e w2 ⟨rfl, hb2⟩
        have HB2 := Lib.hid (HB.out.trans (hb2.mono HB.out.size))
        clear hb2 CN
        go_wp2_with fail
        go_roundg (n - (k + 1))
        case measure => have := Hg.out; omega
        case rel =>
          refine ⟨k + 1, by omega, rfl, by go_num, HB2.out, fun i d h1 h2 => ?_⟩
          by_cases hik : i = k
          · subst hik
            rw [HGET.out] at h2
            cases h2
            exact HZ.out
          · exact HNO.out i d (by omega) h2
    · obtain rfl : k = n := by omega
      go_wp2_with fail
      go_ret
      refine ⟨_, rfl, .inl ⟨rfl, fun c hc => ?_⟩, HB.out⟩
      obtain ⟨i, hi, rfl⟩ := List.mem_iff_getElem.1 hc
      exact HNO.out i _ (by have := HN.out; omega) (List.getElem?_eq_getElem hi)
end Go.Proofs.YtioeifbobhdccaaGreatDoor
/- gif: the reader's small words. -/
namespace Go.Proofs.YtioeifbobhdccaaGreatDoor
open Go.RowKit Go.Sort
structure gr.At (w : World) (g b off n cap : Nat) (l : List Int) : Prop where
  head : w.heap[g]? = some (.cells #[.slice (some ⟨b, off, none⟩) n cap] 61 (0, 0))
  data : Sl .u8 w (some ⟨b, off, none⟩) n cap l
  apart : b ≠ g
def gr.BytesPost (g b off n cap k : Nat) (l : List Int) (w : World) (e : Ending) (w' : World) : Prop :=
  e = .returned (.slice (some ⟨b, off, none⟩) k cap) ∧ (∃ off', gr.At w' g b off' (n - k) (cap - k) (l.drop k)) ∧ w.grownBy w' (some g) ∧ Sl .u8 w' (some ⟨b, off, none⟩) k cap (l.take k)
theorem Sl.kept {k : IntKind} {w w' : World} {b off n c : Nat} {l : List Int} {row : Option Nat} (h : Sl k w (some ⟨b, off, none⟩) n c l) (hg : w.grownBy w' row) (hne : some b ≠ row) : Sl k w' (some ⟨b, off, none⟩) n c l := by
  refine ⟨h.len, h.fits, h.most, h.bare, h.wf, ?_⟩
  rcases h.rd with h0 | ⟨b', off', e, hc⟩
  · exact .inl h0
  · simp only [Option.some.injEq, Addr.mk.injEq, and_true] at e
    obtain ⟨rfl, rfl⟩ := e
    exact .inr ⟨b, off, rfl, fun i hi => (World.cell?_of_block (hg.block b (block_lt_of_cell (hc i hi)) hne)).trans (hc i hi)⟩
set_option maxRecDepth 100000 in
theorem grBytes_any (g b off n cap k : Nat) (l : List Int) (w : World) (h : gr.At w g b off n cap l) (hk : k ≤ n) :
    Calls Tryz.prog 24 #[.pointer (some ⟨g, 0, none⟩), .int .i64 k] w (gr.BytesPost g b off n cap k l w) := by
  have HH := Lib.hid h
  have c0 := (cell_of_row w _ 0 _ _ (0, 0) h.head).trans (show _ = some (Value.slice (some ⟨b, off, none⟩) n cap) from rfl)
  have f0 := frozen_of_row w _ 0 _ _ h.head
  have hfit := h.data.fits
  have hmost := h.data.most
  unfold maxLen at hmost
  have hk1 : ¬ ((n : Int) < (k : Int)) := by omega
  have hk2 : (k : Int) ≤ (n : Int) := by omega
  have hk3 : (k : Int) ≤ (cap : Int) := by omega
  have HNE := Lib.hid h.apart
  clear h
  by_cases hck : cap = k
  · subst hck
    have hck' : ((cap : Int) - (cap : Int)) = 0 := by omega
    go_enter Tryz.func24, Tryz.ntmps24
    go_wp2_with fail
    go_ret
    have hg := grownBy_setCell3 w g 0 (.slice (some ⟨b, off, none⟩) 0 0)
    have hd := HH.out.data.kept hg (by intro e; exact HNE.out (Option.some.inj e))
    have hnk : n = cap := by omega
    have hl : l.drop cap = [] := List.drop_eq_nil_of_le (by rw [HH.out.data.len, hnk]; exact Nat.le_refl _)
    have h00 : n - cap = 0 := by omega
    have hem : Sl .u8 (w.setCell { block := g, off := 0 } (Value.slice (some { block := b, off := off }) 0 0)) (some ⟨b, off, none⟩) 0 0 [] :=
      ⟨rfl, Nat.le_refl _, by unfold maxLen; omega, (fun e => by cases e), (fun x hx => by cases hx), .inl rfl⟩
    have hat : gr.At (w.setCell { block := g, off := 0 } (Value.slice (some { block := b, off := off }) 0 0)) g b off (n - cap) (cap - cap) (l.drop cap) := by
      rw [h00, Nat.sub_self, hl]
      exact ⟨heap_setCell_same w g 0 _ _ _ HH.out.head, hem, HNE.out⟩
    exact ⟨rfl, ⟨off, hat⟩, hg, hd.take hk⟩
  · go_enter Tryz.func24, Tryz.ntmps24
    go_wp2_with fail
    go_ret
    have hg := grownBy_setCell3 w g 0 (.slice (some ⟨b, off + k, none⟩) (n - k) (cap - k))
    have hd := HH.out.data.kept hg (by intro e; exact HNE.out (Option.some.inj e))
    exact ⟨rfl, ⟨off + k, heap_setCell_same w g 0 _ _ _ HH.out.head, hd.drop hk, HNE.out⟩, hg, hd.take hk⟩
theorem gr.At.below {w w' : World} {g b off n cap : Nat} {l : List Int} (h : gr.At w g b off n cap l) (hb : Below w.heap.size w w') : gr.At w' g b off n cap l :=
  ⟨(hb.block _ (block_lt h.head)).trans h.head, h.data.below hb, h.apart⟩
theorem gr.i64_or (a b : Nat) (ha : a < 9223372036854775808) (hb : b < 9223372036854775808) : bits .or .i64 (a : Int) (b : Int) = ((a ||| b : Nat) : Int) := by
  show IntKind.i64.wrap ((BitVec.ofInt 64 (a : Int) ||| BitVec.ofInt 64 (b : Int)).toNat : Int) = _
  rw [BitVec.toNat_or, ofInt_u64 a (by omega), ofInt_u64 b (by omega)]
  exact Lib.wrap_i64_small _ (Nat.or_lt_two_pow (n := 63) ha hb)
theorem gr.i64_and (a b : Nat) (ha : a < 9223372036854775808) (hb : b < 9223372036854775808) : bits .and .i64 (a : Int) (b : Int) = ((a &&& b : Nat) : Int) := by
  show IntKind.i64.wrap ((BitVec.ofInt 64 (a : Int) &&& BitVec.ofInt 64 (b : Int)).toNat : Int) = _
  rw [BitVec.toNat_and, ofInt_u64 a (by omega), ofInt_u64 b (by omega)]
  exact Lib.wrap_i64_small _ (Nat.and_lt_two_pow (n := 63) _ hb)
theorem gr.or_two {v u : Int} (h : (0 ≤ v ∧ v < 256) ∧ (0 ≤ u ∧ u < 256)) : bits .or .i64 v (u * 256) = v + 256 * u := by
  obtain ⟨⟨h1, h2⟩, h3, h4⟩ := h
  obtain ⟨a, rfl⟩ := Int.eq_ofNat_of_zero_le h1
  obtain ⟨b, rfl⟩ := Int.eq_ofNat_of_zero_le h3
  have e : ((b : Int) * 256) = ((2 ^ 8 * b : Nat) : Int) := by omega
  rw [e, gr.i64_or a (2 ^ 8 * b) (by omega) (by omega), Nat.or_comm, ← Nat.two_pow_add_eq_or_of_lt (i := 8) (b := a) (by omega) b]
  omega
def gr.OnePost (g b : Nat) (n cap k : Nat) (l : List Int) (v : Int) (w : World) (e : Ending) (w' : World) : Prop :=
  e = .returned (.int .i64 v) ∧ (∃ off', gr.At w' g b off' (n - k) (cap - k) (l.drop k)) ∧ w.grownBy w' (some g)
set_option maxRecDepth 100000 in
theorem grOne_any (g b off n cap : Nat) (l : List Int) (w : World) (h : gr.At w g b off n cap l) (hk : 1 ≤ n) :
    Calls Tryz.prog 26 #[.pointer (some ⟨g, 0, none⟩)] w (gr.OnePost g b n cap 1 l (l.getD 0 0) w) := by
  have KB := Lib.hid (grBytes_any g b off n cap 1 l w h hk)
  clear h
  go_enter Tryz.func26, Tryz.ntmps26
  go_wp2_with fail
  go_must (refine KB.out.mono ?_)
  rintro e w1 ⟨rfl, ⟨off', ha⟩, hg, hs⟩
  have HA := Lib.hid ha
  have HG := Lib.hid hg
  obtain ⟨b', o', e0, hcc⟩ := hs.cells (by omega)
  have k0 := hcc 0 (by omega)
  simp only [Option.some.injEq, Addr.mk.injEq, and_true] at e0
  obtain ⟨rfl, rfl⟩ := e0
  have hv : (l.take 1).getD 0 0 = l.getD 0 0 := by cases l <;> rfl
  have hb := byte_getD hs.bytes 0
  rw [hv] at k0 hb
  rw [Nat.add_zero] at k0
  have hb1 := hb.1
  have hb2 := hb.2
  clear ha hg hs hcc hv hb
  generalize l.getD 0 0 = v at *
  go_wp2_with fail
  go_ret
  exact ⟨rfl, ⟨off', HA.out⟩, HG.out⟩
set_option maxRecDepth 100000 in
theorem grTwo_any (g b off n cap : Nat) (l : List Int) (w : World) (h : gr.At w g b off n cap l) (hk : 2 ≤ n) :
    Calls Tryz.prog 25 #[.pointer (some ⟨g, 0, none⟩)] w (gr.OnePost g b n cap 2 l (l.getD 0 0 + 256 * l.getD 1 0) w) := by
  have KB := Lib.hid (grBytes_any g b off n cap 2 l w h hk)
  clear h
  go_enter Tryz.func25, Tryz.ntmps25
  go_wp2_with fail
  go_must (refine KB.out.mono ?_)
  rintro e w1 ⟨rfl, ⟨off', ha⟩, hg, hs⟩
  have HA := Lib.hid ha
  have HG := Lib.hid hg
  obtain ⟨b', o', e0, hcc⟩ := hs.cells (by omega)
  have k0 := hcc 0 (by omega)
  have k1 := hcc 1 (by omega)
  simp only [Option.some.injEq, Addr.mk.injEq, and_true] at e0
  obtain ⟨rfl, rfl⟩ := e0
  have hv : (l.take 2).getD 0 0 = l.getD 0 0 := by cases l <;> rfl
  have hv1 : (l.take 2).getD 1 0 = l.getD 1 0 := by
    match l with
    | [] => rfl
    | [_] => rfl
    | _ :: _ :: _ => rfl
  have hb := byte_getD hs.bytes 0
  have hb' := byte_getD hs.bytes 1
  rw [hv] at k0 hb
  rw [hv1] at k1 hb'
  rw [Nat.add_zero] at k0
  have hb1 := hb.1
  have hb2 := hb.2
  have hb3 := hb'.1
  have hb4 := hb'.2
  clear ha hg hs hcc hv hv1 hb hb'
  generalize l.getD 0 0 = v at *
  generalize l.getD 1 0 = u at *
  have HR := Lib.hid (show (0 ≤ v ∧ v < 256) ∧ (0 ≤ u ∧ u < 256) from ⟨⟨hb1, hb2⟩, hb3, hb4⟩)
  go_wp2_with (go_quiet (fail))
  go_ret
  rw [gr.or_two HR.out]
  have hq := below_drewN (Below.refl w1.heap.size w1) nq
  exact ⟨rfl, ⟨off', HA.out.below hq⟩, HG.out.trans (grown_some hq)⟩
end Go.Proofs.YtioeifbobhdccaaGreatDoor
/- What loops over iterators hold between rounds: blocks that stay, and a row that grows behind a box. -/
namespace Go.Proofs.YtioeifbobhdccaaGreatDoor
open Go.RowKit Go.Sort Go.Shelf

theorem keepsOthers_below {W W' : World} (h : Below W.heap.size W W') : KeepsOthers W W' := ⟨h.size, fun _ _ hk _ => (h.block _ (block_lt hk)).trans hk⟩
theorem own_heap {A B : World} {row : Option Nat} {b : Nat} {cs : Array Value} {t : TypeId} {fr : Nat × Nat} (hg : A.grownBy B row) (hr : ∀ r, row = some r → ∃ o : Obj, A.heap[r]? = some o ∧ o.isCells = false) (h : A.heap[b]? = some (.cells cs t fr)) : B.heap[b]? = some (.cells cs t fr) :=
  grown_block hg h (by
    intro e
    obtain ⟨o, ho, hc⟩ := hr b e.symm
    rw [h] at ho
    cases ho
    cases hc)
theorem own_ne {w : World} {base : Nat} {e : TypeId} {size : Nat} {v : Value} {n : Nat} {xs : List Value} (h : w.ownsRow base e size v n xs) {b : Nat} {cs : Array Value} {t : TypeId} {z : Nat × Nat} (hb : w.heap[b]? = some (.cells cs t z)) (ht : t ≠ e) : some b ≠ v.ownBlock := fun e' => by
  rcases h.2 with ⟨rfl, _⟩ | ⟨g', cap', cur, rfl, _, hg, _⟩
  · cases e'
  · cases e'
    rw [hb] at hg
    simp only [Option.some.injEq, Obj.cells.injEq] at hg
    exact ht hg.2.1
theorem run_make_rowN {P : Program} (t e : TypeId) (i : TypeInfo) (z : Value) (ht : P.underlying t = some (.slice e)) (hi : P.info? e = some i) (hz : i.zero = some z)
    (kl kc : IntKind) (n c : Nat) (hnc : n ≤ c) (hbytes : i.bytes * c ≤ 281474976710656) (h63 : c ≤ 9223372036854775807) (w : World) :
    (Instr.makeSlice t (.int kl (n : Int)) (.int kc (c : Int))).run P w = .ok (.slice (some ⟨w.heap.size, 0, none⟩) n c) (w.alloc (.cells (madeCells z.cells (c * i.size)) e)) := by
  have hb : (i.bytes : Int) * (c : Int) ≤ 281474976710656 := by
    have h : ((i.bytes * c : Nat) : Int) ≤ 281474976710656 := by omega
    rwa [Int.natCast_mul] at h
  have hr := run_make (P := P) w t e i z ht hi hz kl kc n c (by omega) (by omega) hb (by omega)
  simp only [Int.toNat_natCast] at hr
  exact hr

/-- a row behind a box, grown within a round and laid back -/
structure BoxApp (w : World) (base ob : Nat) (ty e : TypeId) (size : Nat) (v' : Value) (n : Nat) (xs : List Value) (vo : Value) (W w2 w3 : World) : Prop where
  old : w2.heap[ob]? = some (.cells #[vo] ty (0, 0))
  box : w3.heap[ob]? = some (.cells #[v'] ty (0, 0))
  row : w3.ownsRow base e size v' n xs
  keep : KeepsOthers W w3
  fix : ∀ b cs t, W.heap[b]? = some (.cells cs t (0, 0)) → t ≠ e → b ≠ ob → w3.heap[b]? = some (.cells cs t (0, 0))
  below : Below w.heap.size w w3
theorem box_app {w W u w2 : World} {base ob : Nat} {ty e : TypeId} {size : Nat} {vo v' : Value} {n n' : Nat} {xs xs' : List Value} (hob : ty ≠ e) (hbs : w.heap.size ≤ base) (hwo : w.heap.size ≤ ob)
    (ho : W.heap[ob]? = some (.cells #[vo] ty (0, 0))) (hr : W.ownsRow base e size vo n xs) (hw : Below w.heap.size w W)
    (hu : Below W.heap.size W u) (hg : u.grownBy w2 vo.ownBlock) (hown : w2.ownsRow base e size v' n' xs') : BoxApp w base ob ty e size v' n' xs' vo W w2 (w2.setCell ⟨ob, 0, none⟩ v') := by
  have up : ∀ {b : Nat} {cs : Array Value} {t : TypeId}, W.heap[b]? = some (.cells cs t (0, 0)) → t ≠ e → w2.heap[b]? = some (.cells cs t (0, 0)) := fun {b cs t} h1 ht => grown_block hg ((hu.block b (block_lt h1)).trans h1) (own_ne hr h1 ht)
  have c1 := up ho hob
  have k1 := grownBy_setCell3 w2 ob 0 v'
  refine ⟨c1, heap_setCell_same w2 ob 0 _ _ v' c1, World.ownsRow.kept hown k1 (.inr fun e' => own_ne hown c1 hob e'.symm), ?_, fun b cs t hb ht hne => grown_block k1 (up hb ht) (by intro e; exact hne (Option.some.inj e)), ?_⟩
  · refine ((keepsOthers_below hu).trans (KeepsOthers.of_grownBy hg fun j o e hj => ?_)).trans (KeepsOthers.setCell _ _ _)
    rcases hr.2 with ⟨rfl, _⟩ | ⟨g0, cap0, cur, rfl, _, hgg, _⟩
    · cases e
    · cases e
      have := ((hu.block _ (block_lt hgg)).trans hgg).symm.trans hj
      cases this
      rfl
  · have hb1 := hw.trans (hu.mono hw.size)
    have hb3 := hb1.grown hg hb1.size (fun j e => by
      have := (World.ownsRow.lt hr j e).1
      omega)
    exact hb3.setCell (p := ⟨ob, 0, none⟩) hwo _
/-- what a round of such a loop holds -/
structure BoxI (w : World) (base : Nat) (fix : List (Nat × Array Value × TypeId)) (ob : Nat) (ty e : TypeId) (size : Nat) (n : Nat) (xs : List Value) (W : World) : Prop where
  fix : ∀ p ∈ fix, W.heap[p.1]? = some (.cells p.2.1 p.2.2 (0, 0))
  box : ∃ vo, W.heap[ob]? = some (.cells #[vo] ty (0, 0)) ∧ W.ownsRow base e size vo n xs
  below : Below w.heap.size w W
structure BoxAt (w : World) (base : Nat) (fix : List (Nat × Array Value × TypeId)) (ob : Nat) (ty e : TypeId) : Prop where
  o1 : w.heap.size ≤ ob
  o2 : w.heap.size ≤ base
  f : ∀ p ∈ fix, p.2.2 ≠ e ∧ p.1 ≠ ob
  t : ty ≠ e
theorem BoxI.own {w : World} {base : Nat} {fix : List (Nat × Array Value × TypeId)} {ob : Nat} {ty e : TypeId} {size n : Nat} {xs : List Value} {W W' : World} {row : Option Nat} (h : BoxI w base fix ob ty e size n xs W) (hg : W.grownBy W' row) (hr : ∀ r, row = some r → w.heap.size ≤ r ∧ ∃ o : Obj, W.heap[r]? = some o ∧ o.isCells = false) : BoxI w base fix ob ty e size n xs W' := by
  have hr' : ∀ r, row = some r → ∃ o : Obj, W.heap[r]? = some o ∧ o.isCells = false := fun r e => (hr r e).2
  obtain ⟨vo, h1, h2⟩ := h.box
  exact ⟨fun p hp => own_heap hg hr' (h.fix p hp), ⟨vo, own_heap hg hr' h1, own_row hg hr' h2⟩, h.below.grown hg h.below.size (fun k e => (hr k e).1)⟩
theorem BoxI.ownFrom {w : World} {base : Nat} {fix : List (Nat × Array Value × TypeId)} {ob : Nat} {ty e : TypeId} {size : Nat} {m : Nat} (hm : w.heap.size ≤ m) {α : Type} (f : List α → Nat) (g : List α → List Value) : OwnFrom m (fun pre W => BoxI w base fix ob ty e size (f pre) (g pre) W) := by
  intro s A B row hs hg hr
  exact hs.own hg (fun r e => ⟨Nat.le_trans hm (hr r e).1, (hr r e).2⟩)
theorem BoxI.app {w : World} {base : Nat} {fix : List (Nat × Array Value × TypeId)} {ob : Nat} {ty e : TypeId} {size n n' : Nat} {xs xs' : List Value} {W u w2 : World} {vo v' : Value} (hA : BoxAt w base fix ob ty e) (h : BoxI w base fix ob ty e size n xs W)
    (ho : W.heap[ob]? = some (.cells #[vo] ty (0, 0))) (hr : W.ownsRow base e size vo n xs) (hu : Below W.heap.size W u) (hg : u.grownBy w2 vo.ownBlock) (hown : w2.ownsRow base e size v' n' xs') :
    w2.heap[ob]? = some (.cells #[vo] ty (0, 0)) ∧ BoxI w base fix ob ty e size n' xs' (w2.setCell ⟨ob, 0, none⟩ v') ∧ KeepsOthers W (w2.setCell ⟨ob, 0, none⟩ v') := by
  have A := box_app hA.t hA.o2 hA.o1 ho hr h.below hu hg hown
  exact ⟨A.old, ⟨fun p hp => A.fix _ _ _ (h.fix p hp) (hA.f p hp).1 (hA.f p hp).2, ⟨v', A.box, A.row⟩, A.below⟩, A.keep⟩
end Go.Proofs.YtioeifbobhdccaaGreatDoor
