/- Rows filtered: the plain words, and the program's walk. -/
import Derived.Test.YtfaemhmefijaoaaDoorCkJoin
import Derived.Test.YtfaemhmefijaoaaDoorCkGuess
import Derived.Test.YtfaemhmefijaoaaDoorChunk
import Derived.Sort.LoopGhostIn
namespace Go.Proofs.YtfaemhmefijaoaaDoor
open Go.RowKit Go.Sort Go.Shelf
attribute [local go_sem] Oper.semAt_some

namespace ck
/-- the byte bpp places to the left, 0 outside -/
def px (l : List Int) (x bpp : Nat) : Int := if bpp ≤ x then l.getD (x - bpp) 0 else 0
def fByte (kind : Int) (bpp : Nat) (above row : List Int) (x : Nat) : Int := (row.getD x 0 - gs kind (px row x bpp) (above.getD x 0) (px above x bpp)) % 256
def fTo (kind : Int) (bpp : Nat) (above row : List Int) (x : Nat) : List Int := kind :: (List.range x).map (fByte kind bpp above row)
def rowOf (width : Nat) (l : List Int) (r : Nat) : List Int := (l.drop (r * width)).take width
def aboveOf (width : Nat) (l : List Int) (r : Nat) : List Int := if r = 0 then List.replicate width 0 else rowOf width l (r - 1)
def filtTo (width bpp : Nat) (kind : Int) (l : List Int) (r : Nat) : List Int := (List.range r).flatMap fun i => fTo kind bpp (aboveOf width l i) (rowOf width l i) width
def filtOk (n : Nat) (width bpp kind : Int) : Prop := fitB width bpp = true ∧ 0 ≤ kind ∧ kind ≤ 4 ∧ n % width.toNat = 0
instance (n : Nat) (width bpp kind : Int) : Decidable (filtOk n width bpp kind) := by unfold filtOk; infer_instance
def filt (width bpp kind : Int) (l : List Int) : List Int := filtTo width.toNat bpp.toNat kind l (l.length / width.toNat)
theorem fTo_length (kind : Int) (bpp : Nat) (above row : List Int) (x : Nat) : (fTo kind bpp above row x).length = x + 1 := by simp [fTo]
theorem fTo_succ (kind : Int) (bpp : Nat) (above row : List Int) (x : Nat) : fTo kind bpp above row (x + 1) = fTo kind bpp above row x ++ [fByte kind bpp above row x] := by simp [fTo, List.range_succ]
theorem filtTo_succ (width bpp : Nat) (kind : Int) (l : List Int) (r : Nat) : filtTo width bpp kind l (r + 1) = filtTo width bpp kind l r ++ fTo kind bpp (aboveOf width l r) (rowOf width l r) width := by simp [filtTo, List.range_succ, List.flatMap_append]
theorem filtTo_length (width bpp : Nat) (kind : Int) (l : List Int) (r : Nat) : (filtTo width bpp kind l r).length = r * (width + 1) := by
  induction r with
  | zero => simp [filtTo]
  | succ r ih => rw [filtTo_succ, List.length_append, ih, fTo_length, Nat.succ_mul]
end ck

def FilterPost (r : Option (List Int)) (w : World) (e : Ending) (w' : World) : Prop :=
  match r with
  | none => e = .returned (.tuple #[.slice none 0 0, .int .i64 190]) ∧ Below w.heap.size w w'
  | some l => ∃ v, e = .returned (.tuple #[v, .int .i64 0]) ∧ w'.ownsRow w.heap.size 5 1 v l.length (l.map (Value.int .u8)) ∧ Below w.heap.size w w'

set_option maxRecDepth 100000 in
set_option maxHeartbeats 1600000 in
theorem filter_no (width bpp kind : Int) (p : Option Addr) (n cap : Nat) (w : World) (hn : n ≤ 140737488355328) (hk1 : -9223372036854775808 ≤ kind) (hk2 : kind ≤ 9223372036854775807) (hok : ¬ ck.filtOk n width bpp kind) :
    Calls Tryd.prog 19 #[.slice p n cap, .int .i64 width, .int .i64 bpp, .int .i64 kind] w (FilterPost none w) := by
  have B0 := Lib.hid (((Below.refl w.heap.size w).alloc (Nat.le_refl _) (.cells #[.int .i64 bpp] 3)).alloc (by simp) (.cells #[.int .i64 kind] 3))
  by_cases h1 : ck.fitB width bpp = true
  · obtain ⟨q1, q2, q3, q4⟩ := of_decide_eq_true h1
    have HF := Lib.hid h1
    obtain ⟨wn, rfl⟩ : ∃ wn : Nat, width = wn := ⟨width.toNat, by omega⟩
    by_cases h2 : kind < 0
    · have k1 : decide (kind < 0) = true := by simpa using h2
      clear h1 hok
      go_enter Tryd.func19, Tryd.ntmps19
      go_wp2_with fail
      refine (fit_any _ _ _).mono ?_
      rintro e w1 ⟨rfl, rfl⟩
      rw [HF.out]
      go_wp2_with fail
      go_ret2
      exact ⟨rfl, B0.out⟩
    · have k1 : decide (kind < 0) = false := by simpa using h2
      by_cases h3 : 4 < kind
      · have k2 : decide (4 < kind) = true := by simpa using h3
        clear h1 hok
        go_enter Tryd.func19, Tryd.ntmps19
        go_wp2_with fail
        refine (fit_any _ _ _).mono ?_
        rintro e w1 ⟨rfl, rfl⟩
        rw [HF.out]
        go_wp2_with fail
        go_ret2
        exact ⟨rfl, B0.out⟩
      · have k2 : decide (4 < kind) = false := by simpa using h3
        have h4 : ¬ n % wn = 0 := fun h => hok ⟨h1, by omega, by omega, by simpa using h⟩
        have k3 : (((n : Int) % (wn : Int)) != 0) = true := by
          have : ((n : Int) % (wn : Int)) = ((n % wn : Nat) : Int) := by omega
          rw [this]
          simp
          omega
        clear h1 hok h4
        go_enter Tryd.func19, Tryd.ntmps19
        go_wp2_with fail
        refine (fit_any _ _ _).mono ?_
        rintro e w1 ⟨rfl, rfl⟩
        rw [HF.out]
        go_wp2_with fail
        go_ret2
        exact ⟨rfl, B0.out⟩
  · have HF : Hid (ck.fitB width bpp = false) := Lib.hid (by simpa using h1)
    clear h1 hok
    go_enter Tryd.func19, Tryd.ntmps19
    go_wp2_with fail
    refine (fit_any _ _ _).mono ?_
    rintro e w1 ⟨rfl, rfl⟩
    rw [HF.out]
    go_wp2_with fail
    go_ret2
    exact ⟨rfl, B0.out⟩

theorem chunkN_any (a : Option Addr) (len cap step : Nat) (hs1 : 1 ≤ step) (w : World) :
    Calls Tryd.prog 39 #[.slice a len cap, .int .i64 step] w fun e w' => e = .returned (.func (.func 52) #[] #[.pointer (some ⟨w.heap.size, 0, none⟩), .pointer (some ⟨w.heap.size + 1, 0, none⟩)]) ∧ (w.alloc (.cells #[.slice a len cap] 22)).alloc (.cells #[.int .i64 step] 3) = w' :=
  chunk_any a len cap step hs1 w
end Go.Proofs.YtfaemhmefijaoaaDoor
