/- 'own': a copy of bytes in new memory. -/
import Derived.Test.YtfaemhmefijaoaaDoorRd
import Derived.Laws.AppendOwnNone
namespace Go.Proofs.YtfaemhmefijaoaaDoor
open Go.RowKit
theorem infoByte : (Tryd.prog.info? 5).map (fun i => (i.zero, i.size, i.bytes)) = some (some (.int .u8 0), 1, 1) := by kernel_rfl

def OwnPost (base n : Nat) (l : List Int) (w : World) (e : Ending) (w' : World) : Prop := ∃ v, e = .returned v ∧ Fresh .u8 5 base w' v n l ∧ Below w.heap.size w w'

set_option maxRecDepth 100000 in
theorem own_any (a : Option Addr) (n cap : Nat) (l : List Int) (w : World) (h : Sl .u8 w a n cap l) (hr : n ≤ 140737488355328) :
    Calls Tryd.prog 12 #[.slice a n cap] w fun e w' => OwnPost w.heap.size n l w e w' := by
  obtain ⟨i0, hi, hz0, hz1, hz2⟩ := info_parts infoByte
  have hlit := World.ownsRow_lit (e := 5) (size := 1) w #[] 0 (Nat.le_refl _) (by simp) rfl
  have H := Lib.hid h
  have Hlit := Lib.hid hlit
  clear h hlit
  cases a with
  | none =>
    obtain rfl : cap = 0 := H.out.bare rfl
    obtain rfl : n = 0 := by have := H.out.fits; omega
    obtain rfl : l = [] := List.length_eq_zero_iff.1 H.out.len
    go_enter Tryd.func12, Tryd.ntmps12
    go_wp2_with (at_builtin; go_must (refine wpList_append_own_none rfl _ _ 22 rfl w.heap.size 5 i0 1 Tryd.underlying22 hi _ 0 [] rfl Hlit.out rfl ?_))
    go_ret
    exact ⟨_, rfl, fresh_of Hlit.out (by simp), (Below.refl _ _).alloc (Nat.le_refl _) _⟩
  | some ad =>
    have hsl := H.out.below ((Below.refl _ _).alloc (Nat.le_refl _) (.cells #[] 5))
    have HN := Lib.hid hsl.at_news
    have hsz : (w.alloc (.cells #[] 5)).heap.size = w.heap.size + 1 := by simp
    have Hsz := Lib.hid hsz
    clear hsl hsz
    go_enter Tryd.func12, Tryd.ntmps12
    go_wp2_with (at_builtin; go_must (refine wpList_append_own _ rfl _ _ 22 rfl w.heap.size 5 i0 (.int .u8 0) 1 1 Tryd.underlying22 hi hz0 hz1 hz2 rfl (by decide) (.slice (some ⟨w.heap.size, 0, none⟩) 0 0) 0 _ rfl Hlit.out ad n cap (l.map (Value.int .u8)) rfl (by rw [List.length_map, H.out.len, Nat.mul_one]) HN.out (ints_oneCell _ _) (by unfold maxLen; omega) (by omega) (by rw [Hsz.out]; omega) ?_; intro v' w1 hown hg hnil; have Hown := Lib.hid hown; have Hg := Lib.hid hg; have Hnil := Lib.hid hnil; clear hown hg hnil))
    go_ret
    have ho : w1.ownsRow w.heap.size 5 1 v' n (l.map (Value.int .u8)) := by
      have := Hown.out
      simpa using this
    refine ⟨_, rfl, fresh_of ho (fun e => ?_), ((Below.refl _ _).alloc (Nat.le_refl _) _).grown Hg.out (by simp) (fun k hk => Nat.le_of_eq (Option.some.inj hk))⟩
    exact absurd (Hnil.out.1 e) (by simp)
end Go.Proofs.YtfaemhmefijaoaaDoor
