/- Apply where it answers an image; slices of samples that an image's row lies in. -/
import Derived.Test.YtdemndjenlhahaaApply
import Derived.Test.YtdemndjenlhahaaTwiceMath
namespace Go.Proofs.Ytdemndjenlhahaa
open Go.RowKit Go.Sort Go.Shelf

theorem wf_u16s {l : List Int} (h : u16s l) : ∀ x ∈ l, (Lit.int .u16 x).wf = true := by
  intro x hx
  have := h x hx
  simp [Lit.wf, IntKind.min, IntKind.max, IntKind.bits, IntKind.signed]
  omega
theorem Sl.u16s {w : World} {p : Option Addr} {n cap : Nat} {l : List Int} (h : Sl .u16 w p n cap l) : u16s l := by
  intro x hx
  have := h.wf x hx
  simp [Lit.wf, IntKind.min, IntKind.max, IntKind.bits, IntKind.signed] at this
  omega
theorem sl_of_row {w : World} {base : Nat} {p : Option Addr} {n cap : Nat} {l : List Int} (h : w.ownsRow base 31 1 (.slice p n cap) l.length (l.map (Value.int .u16))) (hu : u16s l) : n = l.length ∧ Sl .u16 w p n cap l := by
  have hw := wf_u16s hu
  have h0 := h
  rcases h.2 with ⟨h', hn⟩ | ⟨g, cap', cur, h', hb, hg, h1, h2, h3⟩
  · have hl : l = [] := List.length_eq_zero_iff.1 hn
    cases h'
    subst hl
    exact ⟨rfl, Sl.nil⟩
  · cases h'
    exact ⟨rfl, Fresh.sl h0 hw⟩

/-- an image of these samples -/
def ImgRes (W H : Int) (L : List Int) (w : World) (e : Ending) (w' : World) : Prop :=
  ∃ p cap, e = .returned (.agg #[.int .i64 W, .int .i64 H, .slice p L.length cap]) ∧ Sl .u16 w' p L.length cap L ∧ Below w.heap.size w w'
def AppRes (E W H : Int) (L : List Int) (w : World) (e : Ending) (w' : World) : Prop :=
  ∃ p cap, e = .returned (.tuple #[.agg #[.int .i64 W, .int .i64 H, .slice p L.length cap], .int .i64 E]) ∧ Sl .u16 w' p L.length cap L ∧ Below w.heap.size w w'

theorem own_res (W H : Int) (p : Option Addr) (n cap : Nat) (l : List Int) (w : World) (h : Sl .u16 w p n cap l) (hr : n * 2 ≤ 140737488355328) :
    Calls Try.prog 16 #[.agg #[.int .i64 W, .int .i64 H, .slice p n cap]] w (ImgRes W H l w) :=
  (ownImg_any W H p n cap l w h hr).mono fun _ _ ⟨_, c', he, _, hrow, hb⟩ => ⟨_, c', he, Fresh.sl hrow h.wf, hb⟩

theorem pm.errOf_ok {op : ByteArray} {a : List Int} {k : Nat} (h : pm.idx op = some k) (ha : pm.okA k a) : pm.errOf op a = 0 := by
  unfold pm.errOf
  rw [h]
  exact if_pos ha
theorem out_wf {k : Nat} {a l : List Int} {W : Int} (hk : k < 20) (ha : pm.okA k a) (hu : u16s l) (hW : 1 ≤ W) (n : Nat) : u16s (pm.out k a l W.toNat n) := pm.out_u16s hk ha hu (by omega) n
theorem good_len {W H : Int} {m : Nat} (h : goodB W H m = true) : 1 ≤ W ∧ m = 4 * (m / 4) := by
  obtain ⟨h1, h2, h3, h4, h5, h6⟩ := of_decide_eq_true h
  have := Int.mul_assoc 4 W H
  exact ⟨h1, by omega⟩
theorem apply_ok (op : ByteArray) (k : Nat) (hop : pm.idx op = some k) (p : Option Addr) (n cap : Nat) (a : List Int) (W H : Int) (q : Option Addr) (m mcap : Nat) (l : List Int) (w : World) (hA : Sl .i64 w p n cap a) (hM : Sl .u16 w q m mcap l) (ha : pm.okA k a) (hg : goodB W H m = true) :
    Calls Try.prog 15 #[.string op, .slice p n cap, .agg #[.int .i64 W, .int .i64 H, .slice q m mcap]] w (AppRes 0 W H (pm.out k a l W.toNat (m / 4)) w) := by
  refine (apply_any op p n cap a W H q m mcap l w hA hM hM.u16s).mono ?_
  rintro e w' h
  unfold ApplyPost at h
  have hE : pm.applyErr op a W H m = 0 := by unfold pm.applyErr; rw [if_pos (pm.errOf_ok hop ha), if_pos hg]
  rw [hE, if_pos rfl, if_pos rfl, if_pos rfl] at h
  have hO : pm.applyOut op a W l = pm.out k a l W.toNat (m / 4) := by unfold pm.applyOut; rw [hop, hM.len]
  rw [hO] at h
  obtain ⟨p', n', cap', he, hrow, hb⟩ := h
  obtain ⟨rfl, hs⟩ := sl_of_row hrow (out_wf (pm.idx_some hop).1 ha hM.u16s (good_len hg).1 _)
  exact ⟨p', cap', he, hs, hb⟩
theorem apply_bad (op : ByteArray) (k : Nat) (hop : pm.idx op = some k) (p : Option Addr) (n cap : Nat) (a : List Int) (W H : Int) (q : Option Addr) (m mcap : Nat) (l : List Int) (w : World) (hA : Sl .i64 w p n cap a) (hM : Sl .u16 w q m mcap l) (ha : pm.okA k a) (hg : goodB W H m = false) :
    Calls Try.prog 15 #[.string op, .slice p n cap, .agg #[.int .i64 W, .int .i64 H, .slice q m mcap]] w (AppRes 6 0 0 [] w) := by
  refine (apply_any op p n cap a W H q m mcap l w hA hM hM.u16s).mono ?_
  rintro e w' h
  unfold ApplyPost at h
  have hE : pm.applyErr op a W H m = 6 := by unfold pm.applyErr; rw [if_pos (pm.errOf_ok hop ha), if_neg (by simp [hg])]
  rw [hE, if_neg (by decide), if_neg (by decide), if_neg (by decide)] at h
  obtain ⟨p', n', cap', he, hrow, hb⟩ := h
  obtain ⟨rfl, hs⟩ := sl_of_row hrow (fun x hx => by cases hx)
  exact ⟨p', cap', he, hs, hb⟩
end Go.Proofs.Ytdemndjenlhahaa
