/- The walks of both Names. -/
import Derived.Test.YtdemndjenlhahaaPt9
import Derived.Great.BuildSlice
import Derived.RangeFuncBox
namespace Go.Proofs.Ytdemndjenlhahaa
open Go.RowKit Go.Sort

theorem infoStr : (Try.prog.info? 9).map (fun i => (i.zero, i.size, i.bytes)) = some (some (.string ⟨#[]⟩), 1, 16) := by kernel_rfl
def strs (l : List ByteArray) : List Value := l.map Value.string
/-- a list of texts in new memory -/
def NewStrs (base : Nat) (w' : World) (v : Value) (n : Nat) (l : List ByteArray) : Prop := ∃ g cap, v = .slice (some ⟨g, 0, none⟩) n cap ∧ base ≤ g ∧ w'.ownsRow base 9 1 v n (strs l)
def NamesPost (w : World) (e : Ending) (w' : World) : Prop := ∃ v, e = .returned v ∧ NewStrs w.heap.size w' v 20 pm.names ∧ Below w.heap.size w w'
theorem ownsRow_base {w : World} {b b' : Nat} {e : TypeId} {size n : Nat} {v : Value} {xs : List Value} (h : w.ownsRow b e size v n xs) (hb : b' ≤ b) : w.ownsRow b' e size v n xs := by
  obtain ⟨h1, h2⟩ := h
  refine ⟨h1, ?_⟩
  rcases h2 with h2 | ⟨g, cap, cur, a, h3, h4⟩
  · exact .inl h2
  · exact .inr ⟨g, cap, cur, a, Nat.le_trans hb h3, h4⟩
theorem one_news (w : World) (X : Obj) (s : ByteArray) (t : TypeId) : ∀ j u, [Value.string s][j]? = some u → ((w.alloc X).alloc (.cells #[.string s] t)).cell? ((⟨w.heap.size + 1, 0, none⟩ : Addr).add j) = some u := by
  intro j u h
  match j, h with
  | 0, h =>
    have e := heap_alloc_last (w.alloc X) (.cells #[.string s] t)
    simp only [World.size_alloc] at e
    exact (cell_of_row _ _ 0 _ _ (0, 0) e).trans (by simpa using h)
  | j + 1, h => simp at h
theorem names_take (k : Nat) (hk : k < 20) : pm.names.take (k + 1) = pm.names.take k ++ [pm.nm k] := by
  have hl : k < pm.names.length := by rw [pm.names_length]; exact hk
  rw [List.take_succ_eq_append_getElem hl]
  unfold pm.nm
  rw [List.getD_eq_getElem?_getD, List.getElem?_eq_getElem hl]
  rfl

set_option maxRecDepth 100000 in
set_option maxHeartbeats 1600000 in
theorem names_any (w : World) : Calls Try.prog 9 #[] w (NamesPost w) := by
  obtain ⟨i0, hi, hz0, hz1, hz2⟩ := info_parts infoStr
  go_enter Try.func9, Try.ntmps9
  go_wp2_with fail
  refine (operators_any _).mono ?_
  rintro e w1 ⟨T, rfl, hT, hb1⟩
  have B1 := Lib.hid hb1
  have HT := Lib.hid hT
  clear hT hb1
  go_wp2_with fail
  go_loopg [1, 6] 20 (fun gk v i wr => ∃ k : Nat, k ≤ 20 ∧ gk = 20 - k ∧ i = .int .i64 k ∧ Below w1.heap.size w1 wr ∧ wr.ownsRow w1.heap.size 9 1 v k (strs (pm.names.take k)))
  case atStart => exact ⟨0, by omega, rfl, rfl, Below.refl _ _, ⟨by simp [strs], .inl ⟨rfl, rfl⟩⟩⟩
  case round =>
    obtain ⟨k, hk, hg, rfl, hbr, hown⟩ := hrel
    have Hg := Lib.hid hg
    have Hb := Lib.hid hbr
    have Hown := Lib.hid hown
    clear hg hbr hown
    by_cases hlt : k < 20
    · obtain ⟨bs, d, c0, c1, c2, hbs, hd⟩ := HT.out.below Hb.out k hlt
      obtain ⟨A, m, rfl⟩ : ∃ A m, bs = .slice A m m := by
        rcases hbs with ⟨_, h⟩ | ⟨g, h, _⟩ <;> exact ⟨_, _, h⟩
      obtain ⟨fn, caps, rfl⟩ : ∃ fn caps, d = .func fn #[] caps := by
        generalize doK k = q at hd
        cases q with
        | dir f => exact ⟨_, _, hd⟩
        | each f => obtain ⟨b, h, _⟩ := hd; exact ⟨_, _, h⟩
        | three f => obtain ⟨b, h, _⟩ := hd; exact ⟨_, _, h⟩
      clear hbs hd
      rw [Nat.mul_comm] at c0 c1 c2
      have H2 := Lib.hid ((Hown.out.alloc (.cells #[.string (pm.nm k), .slice A m m, .func fn #[] caps] 57)).alloc (.cells #[.string (pm.nm k)] 9))
      have hsz : w1.heap.size ≤ wr.heap.size := Hb.out.size
      have hs1 : w1.heap.size ≤ ((wr.alloc (.cells #[.string (pm.nm k), .slice A m m, .func fn #[] caps] 57)).alloc (.cells #[.string (pm.nm k)] 9)).heap.size := by simp; omega
      have Hs1 := Lib.hid hs1
      clear hs1
      go_wp2_with (first
        | (with_reducible refine wpList_store_row rfl 57 _ _ rfl wr.heap.size _ rfl rfl 57 _ (heap_alloc_last _ _) (opSize _ _ _) (opSz _ _ _ _ _ _) (opOne _ _ _ _ _ _ _) ?_; rw [World.setRow_alloc_new])
        | (at_builtin; refine wpList_append_own _ rfl (.tmp 10) (.tmp 13) 24 rfl w1.heap.size 9 i0 (.string ⟨#[]⟩) 1 16 Try.underlying24 hi hz0 hz1 hz2 rfl (by decide) _ k _ rfl H2.out ⟨wr.heap.size + 1, 0, none⟩ 1 1 [.string (pm.nm k)] rfl rfl (one_news _ _ _ _) (by simp [Value.oneCell']) (by unfold maxLen; omega) (by omega) Hs1.out ?_; intro v' w2 hown hg _; have Hown2 := Lib.hid hown; have Hg2 := Lib.hid hg; clear hown hg))
      go_roundg (20 - (k + 1))
      case measure => have := Hg.out; omega
      case rel =>
        refine ⟨k + 1, by omega, rfl, by go_num, ?_, ?_⟩
        · exact ((Hb.out.alloc Hb.out.size _).alloc (by simp; omega) _).grown Hg2.out Hs1.out (fun q hq => (Hown.out.lt q hq).1)
        · have := Hown2.out
          rw [names_take k hlt]
          simpa [strs] using this
    · obtain rfl : k = 20 := by omega
      have HF : Hid (NewStrs w.heap.size wr _ 20 pm.names) := Lib.hid (by
        have := Hown.out
        obtain ⟨g, cap, e⟩ := ownsRow_succ (k := 19) this
        refine ⟨g, cap, e, ?_, ?_⟩
        · have := (this.lt g (by rw [e]; rfl)).1
          exact Nat.le_trans B1.out.size this
        · exact ownsRow_base this B1.out.size)
      have HB := Lib.hid (B1.out.trans (Hb.out.mono B1.out.size))
      go_wp2_with fail
      go_ret
      exact ⟨_, rfl, HF.out, HB.out⟩
end Go.Proofs.Ytdemndjenlhahaa
