/- The reference's Names, In, Bounds, Fit. -/
import Derived.Test.YtdemndjenlhahaaPt11
namespace Go.Proofs.Ytdemndjenlhahaa
open Go.RowKit Go.Sort

set_option maxRecDepth 100000 in
theorem refNames_any (w : World) : Calls Try.prog 10 #[] w fun e w' => e = .returned (.slice (some ⟨w.heap.size, 0, none⟩) 20 20) ∧ w' = w.alloc (.cells (strs pm.names).toArray 9) := by
  go_enter Try.func10, Try.ntmps10
  go_wp2_with fail
  go_ret
  exact ⟨rfl, rfl⟩

theorem strs_get (l : List ByteArray) (i : Nat) (h : i < l.length) : (strs l).toArray[i]? = some (.string (l.getD i ⟨#[]⟩)) := by
  simp [strs, List.getD_eq_getElem?_getD, List.getElem?_eq_getElem h]

/-- does a text stand in a list? -/
def inFirst (s : ByteArray) (l : List ByteArray) (k : Nat) : Prop := ∃ j, j < k ∧ l.getD j ⟨#[]⟩ = s

set_option maxRecDepth 100000 in
theorem refIn_any (s : ByteArray) (g : Nat) (l : List ByteArray) (b : Bool) (w : World) (hl : l.length = 20) (hb : b = true ↔ ∃ j, j < 20 ∧ l.getD j ⟨#[]⟩ = s) (hc : w.heap[g]? = some (.cells (strs l).toArray 9 (0, 0))) :
    Calls Try.prog 22 #[.string s, .slice (some ⟨g, 0, none⟩) 20 20] w fun e w' => e = .returned (.bool b) ∧ w = w' := by
  have HB := Lib.hid hb
  have HC := Lib.hid hc
  have HL := Lib.hid hl
  clear hb hc hl
  go_enter Try.func22, Try.ntmps22
  go_wp2_with fail
  go_loopg [5] 20 (fun gk i wr => ∃ k : Nat, k ≤ 20 ∧ gk = 20 - k ∧ i = .int .i64 k ∧ w = wr ∧ ∀ j, j < k → l.getD j ⟨#[]⟩ ≠ s)
  case atStart => exact ⟨0, by omega, rfl, rfl, rfl, fun j hj => absurd hj (by omega)⟩
  case round =>
    obtain ⟨k, hk, hg, rfl, rfl, hno⟩ := hrel
    have Hg := Lib.hid hg
    have Hno := Lib.hid hno
    clear hg hno
    by_cases hlt : k < 20
    · have c0 := (cell_of_row w g k _ _ (0, 0) HC.out).trans (strs_get l k (by rw [HL.out]; exact hlt))
      by_cases he : l.getD k ⟨#[]⟩ = s
      · have HV : Hid (b = true) := Lib.hid (HB.out.2 ⟨k, hlt, he⟩)
        rw [he] at c0
        clear he
        go_wp2_with fail
        go_ret
        exact ⟨by rw [HV.out]; rfl, rfl⟩
      · have HE : Hid (∀ j, j = k → l.getD j ⟨#[]⟩ ≠ s) := Lib.hid fun j hj => by rw [hj]; exact he
        have hS := str_ne he
        generalize l.getD k ⟨#[]⟩ = t at *
        have hS' : (t.toList = s.toList) = False := eq_false (beq_eq_false_iff_ne.1 hS)
        clear he
        go_wp2_with fail
        go_roundg (20 - (k + 1))
        case measure => have := Hg.out; omega
        case rel => exact ⟨k + 1, by omega, rfl, by go_num, rfl, fun j hj => by
          rcases Nat.lt_or_ge j k with h | h
          · exact Hno.out j h
          · exact HE.out j (by omega)⟩
    · obtain rfl : k = 20 := by omega
      have HV : Hid (b = false) := Lib.hid (by
        cases b with
        | false => rfl
        | true => obtain ⟨j, h1, h2⟩ := HB.out.1 rfl; exact absurd h2 (Hno.out j h1))
      go_wp2_with fail
      go_ret
      exact ⟨by rw [HV.out]; rfl, rfl⟩


/-- a list of bounds, two numbers each, that can be read -/
def BdAt (w : World) (A : Option Addr) (l : List (Int × Int)) : Prop := l = [] ∨ ∃ g, A = some ⟨g, 0, none⟩ ∧ ∀ i x, (flat l)[i]? = some x → w.cell? ⟨g, i, none⟩ = some x
theorem BdAt.below {w w' : World} {A : Option Addr} {l : List (Int × Int)} (h : BdAt w A l) (hb : Below w.heap.size w w') : BdAt w' A l := by
  rcases h with h | ⟨g, h1, h2⟩
  · exact .inl h
  · exact .inr ⟨g, h1, fun i x hx => (hb.cell (block_lt_of_cell (h2 i x hx))).trans (h2 i x hx)⟩
def BoundsPost (k : Nat) (w : World) (e : Ending) (w' : World) : Prop := ∃ A, e = .returned (.slice A (2 * (pm.bnd k).length) (2 * (pm.bnd k).length)) ∧ BdAt w' A (pm.bnd k) ∧ Below w.heap.size w w'
theorem bounds_of (k : Nat) (w : World) (cs : Array Value) (t : TypeId) (h : cs = (flat (pm.bnd k)).toArray) (hk : cs.size = 2 * (pm.bnd k).length) : BoundsPost k w (.returned (.slice (some ⟨w.heap.size, 0, none⟩) cs.size cs.size)) (w.alloc (.cells cs t)) := by
  refine ⟨_, by rw [hk], .inr ⟨_, rfl, fun i x hx => ?_⟩, (Below.refl _ _).alloc (Nat.le_refl _) _⟩
  exact cells_alloc _ _ _ _ _ (by rw [h]; simpa using hx)

set_option maxRecDepth 100000 in
set_option maxHeartbeats 1600000 in
theorem refBounds_any (k : Nat) (hk : k < 20) (w : World) : Calls Try.prog 24 #[.string (pm.nm k)] w (BoundsPost k w) := by
  match k, hk with
  | 0, _ =>
    show Calls _ _ #[.string ⟨#[105, 110, 118, 101, 114, 116]⟩] _ _
    go_enter Try.func24, Try.ntmps24
    go_wp2_with fail
    go_ret
    exact ⟨none, rfl, .inl rfl, Below.refl _ _⟩
  | 1, _ =>
    show Calls _ _ #[.string ⟨#[103, 114, 101, 121]⟩] _ _
    go_enter Try.func24, Try.ntmps24
    go_wp2_with fail
    go_ret
    exact ⟨none, rfl, .inl rfl, Below.refl _ _⟩
  | 2, _ =>
    show Calls _ _ #[.string ⟨#[116, 104, 114, 101, 115, 104, 111, 108, 100]⟩] _ _
    go_enter Try.func24, Try.ntmps24
    go_wp2_with fail
    go_ret
    exact bounds_of 2 w #[.int .i64 0, .int .i64 65535] _ rfl rfl
  | 3, _ =>
    show Calls _ _ #[.string ⟨#[108, 101, 118, 101, 108, 115]⟩] _ _
    go_enter Try.func24, Try.ntmps24
    go_wp2_with fail
    go_ret
    exact bounds_of 3 w #[.int .i64 0, .int .i64 65535, .int .i64 0, .int .i64 65535] _ rfl rfl
  | 4, _ =>
    show Calls _ _ #[.string ⟨#[115, 113, 117, 101, 101, 122, 101]⟩] _ _
    go_enter Try.func24, Try.ntmps24
    go_wp2_with fail
    go_ret
    exact bounds_of 4 w #[.int .i64 0, .int .i64 65535, .int .i64 0, .int .i64 65535] _ rfl rfl
  | 5, _ =>
    show Calls _ _ #[.string ⟨#[97, 100, 100]⟩] _ _
    go_enter Try.func24, Try.ntmps24
    go_wp2_with fail
    go_ret
    exact bounds_of 5 w #[.int .i64 (-65535), .int .i64 65535] _ rfl rfl
  | 6, _ =>
    show Calls _ _ #[.string ⟨#[115, 99, 97, 108, 101]⟩] _ _
    go_enter Try.func24, Try.ntmps24
    go_wp2_with fail
    go_ret
    exact bounds_of 6 w #[.int .i64 0, .int .i64 65535, .int .i64 1, .int .i64 65535] _ rfl rfl
  | 7, _ =>
    show Calls _ _ #[.string ⟨#[112, 111, 115, 116, 101, 114, 105, 122, 101]⟩] _ _
    go_enter Try.func24, Try.ntmps24
    go_wp2_with fail
    go_ret
    exact bounds_of 7 w #[.int .i64 2, .int .i64 256] _ rfl rfl
  | 8, _ =>
    show Calls _ _ #[.string ⟨#[115, 111, 108, 97, 114, 105, 122, 101]⟩] _ _
    go_enter Try.func24, Try.ntmps24
    go_wp2_with fail
    go_ret
    exact bounds_of 8 w #[.int .i64 0, .int .i64 65535] _ rfl rfl
  | 9, _ =>
    show Calls _ _ #[.string ⟨#[103, 97, 109, 109, 97]⟩] _ _
    go_enter Try.func24, Try.ntmps24
    go_wp2_with fail
    go_ret
    exact bounds_of 9 w #[.int .i64 1, .int .i64 3] _ rfl rfl
  | 10, _ =>
    show Calls _ _ #[.string ⟨#[115, 119, 97, 112]⟩] _ _
    go_enter Try.func24, Try.ntmps24
    go_wp2_with fail
    go_ret
    exact bounds_of 10 w #[.int .i64 1, .int .i64 5] _ rfl rfl
  | 11, _ =>
    show Calls _ _ #[.string ⟨#[99, 104, 97, 110, 110, 101, 108]⟩] _ _
    go_enter Try.func24, Try.ntmps24
    go_wp2_with fail
    go_ret
    exact bounds_of 11 w #[.int .i64 0, .int .i64 3] _ rfl rfl
  | 12, _ =>
    show Calls _ _ #[.string ⟨#[115, 101, 112, 105, 97]⟩] _ _
    go_enter Try.func24, Try.ntmps24
    go_wp2_with fail
    go_ret
    exact ⟨none, rfl, .inl rfl, Below.refl _ _⟩
  | 13, _ =>
    show Calls _ _ #[.string ⟨#[116, 105, 110, 116]⟩] _ _
    go_enter Try.func24, Try.ntmps24
    go_wp2_with fail
    go_ret
    exact bounds_of 13 w #[.int .i64 0, .int .i64 65535, .int .i64 0, .int .i64 65535, .int .i64 0, .int .i64 65535, .int .i64 0, .int .i64 256] _ rfl rfl
  | 14, _ =>
    show Calls _ _ #[.string ⟨#[111, 112, 97, 113, 117, 101]⟩] _ _
    go_enter Try.func24, Try.ntmps24
    go_wp2_with fail
    go_ret
    exact ⟨none, rfl, .inl rfl, Below.refl _ _⟩
  | 15, _ =>
    show Calls _ _ #[.string ⟨#[97, 108, 112, 104, 97]⟩] _ _
    go_enter Try.func24, Try.ntmps24
    go_wp2_with fail
    go_ret
    exact bounds_of 15 w #[.int .i64 0, .int .i64 256] _ rfl rfl
  | 16, _ =>
    show Calls _ _ #[.string ⟨#[102, 108, 97, 116, 116, 101, 110]⟩] _ _
    go_enter Try.func24, Try.ntmps24
    go_wp2_with fail
    go_ret
    exact bounds_of 16 w #[.int .i64 0, .int .i64 65535, .int .i64 0, .int .i64 65535, .int .i64 0, .int .i64 65535] _ rfl rfl
  | 17, _ =>
    show Calls _ _ #[.string ⟨#[107, 101, 121]⟩] _ _
    go_enter Try.func24, Try.ntmps24
    go_wp2_with fail
    go_ret
    exact bounds_of 17 w #[.int .i64 0, .int .i64 65535, .int .i64 0, .int .i64 65535, .int .i64 0, .int .i64 65535, .int .i64 0, .int .i64 65535] _ rfl rfl
  | 18, _ =>
    show Calls _ _ #[.string ⟨#[99, 104, 101, 99, 107, 101, 114]⟩] _ _
    go_enter Try.func24, Try.ntmps24
    go_wp2_with fail
    go_ret
    exact bounds_of 18 w #[.int .i64 1, .int .i64 4096] _ rfl rfl
  | 19, _ =>
    show Calls _ _ #[.string ⟨#[102, 97, 100, 101]⟩] _ _
    go_enter Try.func24, Try.ntmps24
    go_wp2_with fail
    go_ret
    exact ⟨none, rfl, .inl rfl, Below.refl _ _⟩
  | n + 20, h => exact absurd h (by omega)
end Go.Proofs.Ytdemndjenlhahaa
