/- The reference's Passes. -/
import Derived.Test.YtfaemhmefijaoaaDoorCkPass
namespace Go.Proofs.YtfaemhmefijaoaaDoor
open Go.RowKit Go.Sort

def passAll : Array Value := #[.int .i64 0, .int .i64 0, .int .i64 8, .int .i64 8, .int .i64 0, .int .i64 0, .int .i64 4, .int .i64 0, .int .i64 8, .int .i64 8, .int .i64 0, .int .i64 0, .int .i64 0, .int .i64 4, .int .i64 4, .int .i64 8, .int .i64 0, .int .i64 0, .int .i64 2, .int .i64 0, .int .i64 4, .int .i64 4, .int .i64 0, .int .i64 0, .int .i64 0, .int .i64 2, .int .i64 2, .int .i64 4, .int .i64 0, .int .i64 0, .int .i64 1, .int .i64 0, .int .i64 2, .int .i64 2, .int .i64 0, .int .i64 0, .int .i64 0, .int .i64 1, .int .i64 1, .int .i64 2, .int .i64 0, .int .i64 0]
theorem pass_world2 {w' W2 : World} {g : Nat} {a b c d : Int} {x y sx sy : Int} (hg : w'.heap[g]? = some (.cells #[.int .i64 a, .int .i64 b, .int .i64 c, .int .i64 d, .int .i64 0, .int .i64 0] 53 (0, 0))) (hW : (w'.setCell ⟨g, 4, none⟩ (.int .i64 x)).setCell ⟨g, 5, none⟩ (.int .i64 y) = W2) (hx : x = sx) (hy : y = sy) :
    W2.heap[g]? = some (.cells #[.int .i64 a, .int .i64 b, .int .i64 c, .int .i64 d, .int .i64 sx, .int .i64 sy] 53 (0, 0)) ∧ w'.grownBy W2 (some g) := by
  subst hx
  subst hy
  subst hW
  have s1 := heap_setCell_same w' g 4 _ _ (.int .i64 x) hg
  have s2 := heap_setCell_same _ g 5 _ _ (.int .i64 y) s1
  exact ⟨s2, grown_join (grownBy_setCell3 w' g 4 (.int .i64 x)) (grownBy_setCell3 _ g 5 (.int .i64 y))⟩

theorem news_at (w : World) (cs : List Value) (t : TypeId) (g : Nat) (hg : w.heap.size = g) : ∀ j u, cs[j]? = some u → (w.alloc (.cells cs.toArray t)).cell? ((⟨g, 0, none⟩ : Addr).add j) = some u := by
  subst hg
  exact news_alloc w cs t
theorem pass_tab {k : Nat} (hk : k < 7) : ∃ X Y DX DY : Nat, ck.passTab[k]? = some ⟨X, Y, DX, DY⟩ ∧ (X ≤ 8 ∧ Y ≤ 8 ∧ 1 ≤ DX ∧ 1 ≤ DY) ∧ passAll[k * 6]? = some (.int .i64 X) ∧ passAll[k * 6 + 1]? = some (.int .i64 Y) ∧ passAll[k * 6 + 2]? = some (.int .i64 DX) ∧ passAll[k * 6 + 3]? = some (.int .i64 DY) ∧ passAll[k * 6 + 4]? = some (.int .i64 0) ∧ passAll[k * 6 + 5]? = some (.int .i64 0) := by
  match k, hk with
  | 0, _ => exact ⟨0, 0, 8, 8, rfl, by decide, rfl, rfl, rfl, rfl, rfl, rfl⟩
  | 1, _ => exact ⟨4, 0, 8, 8, rfl, by decide, rfl, rfl, rfl, rfl, rfl, rfl⟩
  | 2, _ => exact ⟨0, 4, 4, 8, rfl, by decide, rfl, rfl, rfl, rfl, rfl, rfl⟩
  | 3, _ => exact ⟨2, 0, 4, 4, rfl, by decide, rfl, rfl, rfl, rfl, rfl, rfl⟩
  | 4, _ => exact ⟨0, 2, 2, 4, rfl, by decide, rfl, rfl, rfl, rfl, rfl, rfl⟩
  | 5, _ => exact ⟨1, 0, 2, 2, rfl, by decide, rfl, rfl, rfl, rfl, rfl, rfl⟩
  | 6, _ => exact ⟨0, 1, 1, 2, rfl, by decide, rfl, rfl, rfl, rfl, rfl, rfl⟩
/-- a side's places, reckoned as the program does -/
theorem span_facts {s : Int} {X D : Nat} (h : (X : Int) < s) (hs : s ≤ 9223372036854775807) (hD : 1 ≤ D) : ∃ q : Int, (s - X - 1) / (D : Int) = q ∧ q + 1 = ck.span s X D ∧ 0 ≤ q ∧ q ≤ s - X - 1 ∧ (s - X - 1).tdiv (D : Int) = q ∧ IntKind.i64.wrap ((s - X - 1).tdiv (D : Int)) = q := by
  have h0 : 0 ≤ s - X - 1 := by omega
  have h1 := Int.ediv_nonneg h0 (show (0 : Int) ≤ D by omega)
  have h2 : (s - X - 1) / (D : Int) ≤ s - X - 1 := Int.ediv_le_self _ h0
  have h3 : (s - X - 1).tdiv (D : Int) = (s - X - 1) / (D : Int) := Int.tdiv_eq_ediv_of_nonneg h0
  refine ⟨_, rfl, rfl, h1, h2, h3, ?_⟩
  rw [h3]
  exact IntWalk.i64_in _ (by omega)
theorem pass_news {W3 : World} {bb cnt : Nat} {t : TypeId} {v : Value} {xs : List Value} {a b c d x y sx sy : Int} (h : W3.ownsRow bb t 6 v (cnt + 1) (xs ++ [.int .i64 a, .int .i64 b, .int .i64 c, .int .i64 d, .int .i64 x, .int .i64 y])) (hx : x = sx) (hy : y = sy) :
    W3.ownsRow bb t 6 v (cnt + 1) (xs ++ [.int .i64 a, .int .i64 b, .int .i64 c, .int .i64 d, .int .i64 sx, .int .i64 sy]) := by
  subst hx
  subst hy
  exact h
theorem own_two {w : World} {bb n : Nat} {t : TypeId} {size : Nat} {v : Value} {m : Nat} {xs : List Value} (h : w.ownsRow bb t size v m xs) (hn : ∀ k, v.ownBlock = some k → k < n) (i j : Nat) (x y : Value) : ((w.setCell ⟨n, i, none⟩ x).setCell ⟨n, j, none⟩ y).ownsRow bb t size v m xs := by
  have hne : v.ownBlock ≠ some n := fun e => Nat.lt_irrefl _ (hn n e)
  exact World.ownsRow.kept (World.ownsRow.kept h (grownBy_setCell3 w n i x) (.inr hne)) (grownBy_setCell3 _ n j y) (.inr hne)

set_option maxRecDepth 100000 in
set_option maxHeartbeats 3200000 in
theorem refpasses_any (wd hg : Int) (w : World) (hw1 : -9223372036854775808 ≤ wd) (hw2 : wd ≤ 9223372036854775807) (hh1 : -9223372036854775808 ≤ hg) (hh2 : hg ≤ 9223372036854775807) :
    Calls Tryd.prog 24 #[.int .i64 wd, .int .i64 hg] w (PassPost wd hg (ck.passes wd hg) w) := by
  go_enter Tryd.func24, Tryd.ntmps24
  go_wp2_with fail
  have hA := heap_alloc_new w (.cells passAll 53)
  have hB := (Below.refl w.heap.size w).alloc (Nat.le_refl _) (.cells passAll 53)
  unfold passAll at hA hB
  generalize w.alloc _ = w1 at *
  have HA1 := Lib.hid hA
  have HB1 := Lib.hid hB
  clear hA hB
  go_loopg [6, 7] 7 (fun gk vo i wr => ∃ k : Nat, k ≤ 7 ∧ gk = 7 - k ∧ i = .int .i64 k ∧ wr.heap[w.heap.size]? = some (.cells passAll 53 (0, 0)) ∧ wr.ownsRow (w.heap.size + 1) 53 6 vo (ck.passesTo wd hg k).length (ck.passCells wd hg (ck.passesTo wd hg k)) ∧ Below w.heap.size w wr)
  case atStart => exact ⟨0, by decide, rfl, rfl, HA1.out, World.ownsRow_nil _ _ _ _, HB1.out⟩
  case round =>
    obtain ⟨v, hv⟩ : ∃ x, x = u6 := ⟨_, rfl⟩
    subst hv
    obtain ⟨k, hk, hgk, rfl, ha, hr, hb⟩ := hrel
    have HA := Lib.hid ha
    have HR := Lib.hid hr
    have HB := Lib.hid hb
    have Hg := Lib.hid hgk
    have hln := block_lt ha
    have HLN : Hid (w.heap.size < wr.heap.size) := Lib.hid hln
    clear ha hr hb hgk hln
    by_cases hlt : k < 7
    · obtain ⟨X, Y, DX, DY, hp, ⟨bx, by', bdx, bdy⟩, a0, a1, a2, a3, a4, a5⟩ := pass_tab hlt
      have HP := Lib.hid hp
      have HS := Lib.hid (ck.passesTo_succ wd hg hp)
      have c0 := (cell_of_row _ _ (k * 6) _ _ (0, 0) HA.out).trans a0
      have c1 := (cell_of_row _ _ (k * 6 + 1) _ _ (0, 0) HA.out).trans a1
      have c2 := (cell_of_row _ _ (k * 6 + 2) _ _ (0, 0) HA.out).trans a2
      have c3 := (cell_of_row _ _ (k * 6 + 3) _ _ (0, 0) HA.out).trans a3
      have c4 := (cell_of_row _ _ (k * 6 + 4) _ _ (0, 0) HA.out).trans a4
      have c5 := (cell_of_row _ _ (k * 6 + 5) _ _ (0, 0) HA.out).trans a5
      have AL := Lib.hid ((Below.refl wr.heap.size wr).alloc (Nat.le_refl _) (.cells #[.int .i64 X, .int .i64 Y, .int .i64 DX, .int .i64 DY, .int .i64 0, .int .i64 0] 53))
      have HA5 := Lib.hid ((AL.out.block _ (block_lt HA.out)).trans HA.out)
      have HR5 := Lib.hid (HR.out.alloc (.cells #[.int .i64 X, .int .i64 Y, .int .i64 DX, .int .i64 DY, .int .i64 0, .int .i64 0] 53))
      have HB5 := Lib.hid (HB.out.trans (AL.out.mono HB.out.size))
      have HX5 := Lib.hid (heap_alloc_new wr (.cells #[.int .i64 X, .int .i64 Y, .int .i64 DX, .int .i64 DY, .int .i64 0, .int .i64 0] 53))
      have HVN := Lib.hid (World.ownsRow.lt HR.out)
      obtain ⟨i0, hi, hz0, hz1, hz2⟩ := info_parts infoPassZ
      have hl7 := passesTo_length wd hg k
      obtain ⟨nb, hnb⟩ : ∃ x, x = wr.heap.size := ⟨_, rfl⟩
      have HNB := Lib.hid hnb
      clear hp a0 a1 a2 a3 a4 a5 hnb
      by_cases h1 : (X : Int) < wd
      · by_cases h2 : (Y : Int) < hg
        · have HS9 : Hid (ck.passesTo wd hg (k + 1) = ck.passesTo wd hg k ++ [⟨X, Y, DX, DY⟩]) := Lib.hid (HS.out.trans (if_pos ⟨h1, h2⟩))
          obtain ⟨qx, qx1, qx2, qx3, qx4, qx5, qx6⟩ := span_facts h1 hw2 bdx
          obtain ⟨qy, qy1, qy2, qy3, qy4, qy5, qy6⟩ := span_facts h2 hh2 bdy
          have zx : ¬ (DX : Int) = 0 := by omega
          have zy : ¬ (DY : Int) = 0 := by omega
          have QX := Lib.hid qx2
          have QY := Lib.hid qy2
          clear qx2 qy2
          go_wp2_with (first
            | (with_reducible refine wpList_store_row rfl 53 _ _ rfl wr.heap.size _ rfl rfl 53 _ (heap_alloc_last _ _) (passSize _ _ _ _ _ _) (passSz _ _ _ _ _ _ _ _ _ _ _ _) (passOne _ _ _ _ _ _) ?_; rw [World.setRow_alloc_new]; generalize wr.alloc _ = w5 at *; rw [← HNB.out] at HX5 ⊢; have b0 := (cell_of_row _ _ 0 _ _ (0, 0) HX5.out).trans rfl; have b1 := (cell_of_row _ _ 1 _ _ (0, 0) HX5.out).trans rfl; have b2 := (cell_of_row _ _ 2 _ _ (0, 0) HX5.out).trans rfl; have b3 := (cell_of_row _ _ 3 _ _ (0, 0) HX5.out).trans rfl; have b4 := (cell_of_row _ _ 4 _ _ (0, 0) HX5.out).trans rfl; have b5 := (cell_of_row _ _ 5 _ _ (0, 0) HX5.out).trans rfl; have f4 := frozen_of_row _ _ 4 _ _ HX5.out; have f5 := frozen_of_row _ _ 5 _ _ HX5.out; clear c0 c1 c2 c3 c4 c5)
            | (at_builtin; go_must (refine wpList_append_own _ rfl _ _ 49 rfl (w.heap.size + 1) 53 i0 (.agg #[.int .i64 0, .int .i64 0, .int .i64 0, .int .i64 0, .int .i64 0, .int .i64 0]) 6 48 Tryd.underlying49 hi hz0 hz1 hz2 rfl (by decide) v (ck.passesTo wd hg k).length _ rfl ((own_two HR5.out (fun j e => by rw [HNB.out]; exact (HVN.out j e).2) 4 5 _ _).alloc _) ⟨_, 0, none⟩ 1 1 _ rfl rfl (news_at _ _ _ _ (by simp)) (by simp [Value.oneCell']) (by unfold maxLen; omega) (by omega) (by have := block_lt HX5.out; have := HLN.out; have := HNB.out; simp; omega) ?_; intro v' W3 hown hgw hnil; have HOWN := Lib.hid (pass_news hown QX.out QY.out); have HGW := Lib.hid hgw; clear hown hgw hnil)))
          have k1 := grownBy_setCell3 w5 nb 4 (.int .i64 (qx + 1))
          have k2 := grownBy_setCell3 (w5.setCell ⟨nb, 4, none⟩ (.int .i64 (qx + 1))) nb 5 (.int .i64 (qy + 1))
          have hnbn : w.heap.size < nb := by rw [HNB.out]; exact HLN.out
          have hn1 : some w.heap.size ≠ some nb := some_ne (by omega)
          have ha2 := grown_block k2 (grown_block k1 HA5.out hn1) hn1
          have hb2 := (HB5.out.grown k1 HB5.out.size (fun j e => by cases e; omega))
          have hb3 := hb2.grown k2 hb2.size (fun j e => by cases e; omega)
          have hb4 := hb3.alloc hb3.size (.cells #[.int .i64 X, .int .i64 Y, .int .i64 DX, .int .i64 DY, .int .i64 (qx + 1), .int .i64 (qy + 1)] 53)
          have hb5 := hb4.grown HGW.out hb4.size (fun j e => Nat.le_of_succ_le (HVN.out j e).1)
          have ha3 := grown_block HGW.out ((Below.heap_alloc _ _ _ (block_lt ha2)).trans ha2) (fun e => by have := (HVN.out _ e.symm).1; omega)
          go_roundg (7 - (k + 1))
          case measure => have := Hg.out; omega
          case rel => exact ⟨k + 1, by omega, rfl, by go_num, ha3, by rw [HS9.out, List.length_append, passCells_snoc]; exact HOWN.out, hb5⟩
        · have HS9 : Hid (ck.passesTo wd hg (k + 1) = ck.passesTo wd hg k) := Lib.hid (HS.out.trans (if_neg (fun h => h2 h.2)))
          go_wp2_with (with_reducible refine wpList_store_row rfl 53 _ _ rfl wr.heap.size _ rfl rfl 53 _ (heap_alloc_last _ _) (passSize _ _ _ _ _ _) (passSz _ _ _ _ _ _ _ _ _ _ _ _) (passOne _ _ _ _ _ _) ?_; rw [World.setRow_alloc_new]; generalize wr.alloc _ = w5 at *; rw [← HNB.out] at HX5 ⊢; have b0 := (cell_of_row _ _ 0 _ _ (0, 0) HX5.out).trans rfl; have b1 := (cell_of_row _ _ 1 _ _ (0, 0) HX5.out).trans rfl; clear c0 c1 c2 c3 c4 c5)
          go_roundg (7 - (k + 1))
          case measure => have := Hg.out; omega
          case rel => exact ⟨k + 1, by omega, rfl, by go_num, HA5.out, by rw [HS9.out]; exact HR5.out, HB5.out⟩
      · have HS9 : Hid (ck.passesTo wd hg (k + 1) = ck.passesTo wd hg k) := Lib.hid (HS.out.trans (if_neg (fun h => h1 h.1)))
        go_wp2_with (with_reducible refine wpList_store_row rfl 53 _ _ rfl wr.heap.size _ rfl rfl 53 _ (heap_alloc_last _ _) (passSize _ _ _ _ _ _) (passSz _ _ _ _ _ _ _ _ _ _ _ _) (passOne _ _ _ _ _ _) ?_; rw [World.setRow_alloc_new]; generalize wr.alloc _ = w5 at *; rw [← HNB.out] at HX5 ⊢; have b0 := (cell_of_row _ _ 0 _ _ (0, 0) HX5.out).trans rfl; have b1 := (cell_of_row _ _ 1 _ _ (0, 0) HX5.out).trans rfl; clear c0 c1 c2 c3 c4 c5)
        go_roundg (7 - (k + 1))
        case measure => have := Hg.out; omega
        case rel => exact ⟨k + 1, by omega, rfl, by go_num, HA5.out, by rw [HS9.out]; exact HR5.out, HB5.out⟩
    · obtain rfl : k = 7 := by omega
      go_wp2_with fail
      go_ret
      exact ⟨v, rfl, World.ownsRow.mono HR.out (Nat.le_succ _), HB.out⟩
end Go.Proofs.YtfaemhmefijaoaaDoor
