/- 'wakes' of the sums' statements answers true. -/
import Derived.Test.YtplgeffihjhobaaSumsCrc
import Derived.Test.YtplgeffihjhobaaSumsAdler
import Derived.Lib.SlBytesConst
namespace Go.Proofs.Ytplgeffihjhobaa
open Go.RowKit

theorem Rd.lit {k : IntKind} (w : World) (cs : Array Value) (t : TypeId) (fr : Nat × Nat) (l : List Int) (h : cs = (l.map (Value.int k)).toArray) : Rd k (w.alloc (.cells cs t fr)) (some ⟨w.heap.size, 0, none⟩) l := by
  refine .inr ⟨w.heap.size, 0, rfl, fun i hi => ?_⟩
  rw [Nat.zero_add, cell_of_row _ _ _ _ _ _ (heap_alloc_new w _), h]
  simp [List.getD_eq_getElem?_getD, List.getElem?_eq_getElem hi]

theorem sm.crc_lit : ((sm.crcOn 0 [49, 50, 51, 52, 53, 54, 55, 56, 57] : Nat) : Int) = 3421780262 := by decide +kernel
theorem sm.adl_lit : ((sm.adlOn 1 [87, 105, 107, 105, 112, 101, 100, 105, 97] : Nat) : Int) = 300286872 := by decide +kernel
theorem sm.adl_nil : ((sm.adlOn 1 [] : Nat) : Int) = 1 := by decide +kernel

theorem crc_lit (a : Option Addr) (w : World) (hr : Rd .u8 w a [49, 50, 51, 52, 53, 54, 55, 56, 57]) :
    Calls Try.prog 9 #[.slice a 9 9] w fun e w' => e = .returned (.int .u32 3421780262) ∧ Below w.heap.size w w' := by
  rw [← sm.crc_lit]
  exact crc_any a 9 9 _ w rfl (by decide) (by unfold sm.Bytes; decide) hr
theorem adl_lit (a : Option Addr) (w : World) (hr : Rd .u8 w a [87, 105, 107, 105, 112, 101, 100, 105, 97]) :
    Calls Try.prog 14 #[.slice a 9 9] w fun e w' => e = .returned (.int .u32 300286872) ∧ w = w' := by
  rw [← sm.adl_lit]
  exact adler_any a 9 9 _ w rfl (by decide) (by decide) (by unfold sm.Bytes; decide) hr
theorem adl_nil (w : World) :
    Calls Try.prog 14 #[.slice none 0 0] w fun e w' => e = .returned (.int .u32 1) ∧ w = w' := by
  have := adler_any none 0 0 [] w rfl (by decide) (by decide) (by unfold sm.Bytes; simp) .nil
  rw [sm.adl_nil] at this
  exact this

set_option maxRecDepth 100000 in
theorem wakes_any (w : World) : Calls Try.prog 8 #[] w fun e w' => e = .returned (.bool true) ∧ Below w.heap.size w w' := by
  have kc := fun (w : World) (C : Array Value) (n c : Nat) => Lib.run_convert_bytes_const (P := Try.prog) w 22 5 C n c Try.underlying22 Try.underlying5
  go_enter Try.func8, Try.ntmps8
  go_wp2_with fail
  go_must (refine (crc_lit _ _ (Rd.lit w _ _ _ _ rfl)).mono ?_)
  rintro e w1 ⟨rfl, hb1⟩
  have Hb1 := Lib.hid hb1
  clear hb1
  go_wp2_with fail
  go_must (refine (adl_lit _ _ (Rd.lit w1 _ _ _ _ rfl)).mono ?_)
  rintro e w2 ⟨rfl, rfl⟩
  go_wp2_with fail
  go_must (refine (adl_nil _).mono ?_)
  rintro e w3 ⟨rfl, rfl⟩
  go_wp2_with fail
  go_ret
  have h1 : Below w.heap.size w w1 := ((Below.refl _ _).alloc (Nat.le_refl _) _).trans (Hb1.out.mono (by simp))
  exact ⟨rfl, h1.alloc h1.size _⟩
end Go.Proofs.Ytplgeffihjhobaa
